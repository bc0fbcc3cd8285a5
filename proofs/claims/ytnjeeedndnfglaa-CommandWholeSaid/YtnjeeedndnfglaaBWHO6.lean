/- What the claim WHO leans on: texts joined by bundle.py, a program of ours; the words cut down to what is used. -/
import Derived.Test.YtnjeeedndnfglaaBWHO5
section
namespace Go.Proofs.Ytnjeeedndnfglaa.X
open Go.RowKit Go.Proofs.YtnjeeedndnfglaaW.PrintWords Go.Proofs.YtnjeeedndnfglaaW.PrintLast Go.Proofs.YtnjeeedndnfglaaW.PrintMore
attribute [local go_sem] max2_int min2_int max_two min_two max_three min_three max_four min_four   -- for this text's walks alone
set_option linter.unusedVariables false
set_option linter.unusedSimpArgs false
/-! ### althingref05_Keys: function 18 -/
mutual
def althingref05_Keys.l0 : Nat → List ByteArray → Int → Int → Int → Int → Int → Int → Int → List (S38) → List (S40) → Bool → Option (List ByteArray)
 | 0, _, _, _, _, _, _, _, _, _, _, _ => none
 | k + 1, x3, x4, x553000, x553001, x553002, x553003, x553004, x553005, x553006, x553007, x553008 => if x4 < (x553006.length : Int) then (if 0 ≤ x4 then (if x3.length < 8796093022208 then (althingref05_Keys.l0 k (x3 ++ [(rd_T38 x553006 x4).f0]) (wrap64 (x4 + 1)) x553000 x553001 x553002 x553003 x553004 x553005 x553006 x553007 x553008) else (none)) else (none)) else (althingref05_Keys.l1 k x3 0 x553000 x553001 x553002 x553003 x553004 x553005 x553006 x553007 x553008)
def althingref05_Keys.l1 : Nat → List ByteArray → Int → Int → Int → Int → Int → Int → Int → List (S38) → List (S40) → Bool → Option (List ByteArray)
 | 0, _, _, _, _, _, _, _, _, _, _, _ => none
 | k + 1, x3, x5, x553000, x553001, x553002, x553003, x553004, x553005, x553006, x553007, x553008 => if x5 < (x553007.length : Int) then (if 0 ≤ x5 then (if x3.length < 8796093022208 then (althingref05_Keys.l1 k (x3 ++ [(rd_T40 x553007 x5).f0]) (wrap64 (x5 + 1)) x553000 x553001 x553002 x553003 x553004 x553005 x553006 x553007 x553008) else (none)) else (none)) else ((althingref04_Join.f k x3 ([] : List ByteArray)).bind fun t561 => (some t561))
end
def althingref05_Keys.f (k : Nat) (a0_0 : Int) (a0_1 : Int) (a0_2 : Int) (a0_3 : Int) (a0_4 : Int) (a0_5 : Int) (l0_6 : List (S38)) (l0_7 : List (S40)) (a0_8 : Bool) : Option (List ByteArray) := althingref05_Keys.l0 k ([] : List ByteArray) 0 a0_0 a0_1 a0_2 a0_3 a0_4 a0_5 l0_6 l0_7 a0_8
set_option maxHeartbeats 8000000 in
set_option maxRecDepth 100000 in
theorem althingref05_Keys.calls (k : Nat) (a0_0 : Int) (a0_1 : Int) (a0_2 : Int) (a0_3 : Int) (a0_4 : Int) (a0_5 : Int) (A0_6 : Option Addr) (c0_6 : Nat) (l0_6 : List (S38)) (A0_7 : Option Addr) (c0_7 : Nat) (l0_7 : List (S40)) (a0_8 : Bool) (r : List ByteArray) (w : World) (hr0_6 : Kd.C k38 w A0_6 l0_6.length l0_6) (hc0_6 : l0_6.length ≤ c0_6) (hr0_7 : Kd.C k40 w A0_7 l0_7.length l0_7) (hc0_7 : l0_7.length ≤ c0_7) (h : althingref05_Keys.f k a0_0 a0_1 a0_2 a0_3 a0_4 a0_5 l0_6 l0_7 a0_8 = some r) :
 Calls Try.prog 18 #[.agg #[.int .i64 a0_0, .int .i64 a0_1, .int .i64 a0_2, .int .i64 a0_3, .int .i64 a0_4, .int .i64 a0_5, .slice A0_6 l0_6.length c0_6, .slice A0_7 l0_7.length c0_7, .bool a0_8]] w fun e w' => ∃ v0_ : Value, e = .returned (v0_) ∧ Kd.R Kd.string 9 w' w.heap.size (fun _ => True) v0_ r ∧ Below w.heap.size w w' := by
 have hu29 := Try.underlying29
 have HR0_6 := Aside0.mk hr0_6
 have HC0_6 := Aside0.mk hc0_6
 clear hr0_6 hc0_6
 have HR0_7 := Aside0.mk hr0_7
 have HC0_7 := Aside0.mk hc0_7
 clear hr0_7 hc0_7
 have HB := Aside0.mk (Below.refl w.heap.size w)
 have H : (althingref05_Keys.l0 k ([] : List ByteArray) 0 a0_0 a0_1 a0_2 a0_3 a0_4 a0_5 l0_6 l0_7 a0_8) = some r := h
 clear h
 have H' := Aside0.mk H
 clear H
 go_enter Try.func18, Try.ntmps18
 go_wp2_with (first | ((with_reducible refine gate_dst (N := 1) rfl ?_); refine box_event ?hg (N := 1) ?hd (cs := #[.int .i64 a0_0, .int .i64 a0_1, .int .i64 a0_2, .int .i64 a0_3, .int .i64 a0_4, .int .i64 a0_5, .slice A0_6 l0_6.length c0_6, .slice A0_7 l0_7.length c0_7, .bool a0_8]) (t := 29) ?hr ?_; (case hd => rfl); (case hg => rfl); (case hr => first | (go_simp; done) | (go_simp; rfl)); intro gb552 hg w2 hbox hb; have n0_ := Aside0.mk (below_step lb_ hb); have n1_ := Aside0.mk (hbox); have n2_ := Aside0.mk ((by rw [hg]; exact (below_size lb_) : w.heap.size ≤ gb552)); have n3_ := Aside0.mk ((by rw [hg]; exact (below_size lb_) : w.heap.size ≤ gb552)); clear HB; have HB := n0_; have BK552 := n1_; have GW552 := n2_; have GE552 := n3_; clear n0_ n1_ n2_ n3_; clear hb hbox hg))
 go_loopg [3, 4] k (fun kq v3 v4 w' => ∃ (x3_1 : List ByteArray) (x4_1 : Int), v4 = .int .i64 x4_1 ∧ Aside0 (althingref05_Keys.l0 kq x3_1 x4_1 a0_0 a0_1 a0_2 a0_3 a0_4 a0_5 l0_6 l0_7 a0_8 = some r) ∧ Aside0 (kq ≤ k) ∧ Aside0 (Kd.R Kd.string 9 w' w.heap.size (fun _ => True) v3 x3_1) ∧ Aside0 (w'.heap[gb552]? = some (.cells #[.int .i64 a0_0, .int .i64 a0_1, .int .i64 a0_2, .int .i64 a0_3, .int .i64 a0_4, .int .i64 a0_5, (.slice A0_6 l0_6.length c0_6), (.slice A0_7 l0_7.length c0_7), .bool a0_8] 29 (0, 0))) ∧ Aside0 (Below w.heap.size w w'))
 case atStart => exact ⟨(([] : List ByteArray)), (0), (by first | rfl | (simp; done) | (simp [*]; done)), H', ⟨Nat.le_refl _⟩, ⟨by first | exact Kd.R_nil _ _ _ _ _ | exact Kd.N_nil _ _ _ _ _ | exact Kd.V_nil _ _ _ _ _ | exact Kd.Q_nil _ _ _ _ _ | exact Kd.S_nil _ _ _ _ _⟩, ⟨by (with_reducible repeat (first | refine blk_drewN ?_ _ | refine blk_drew ?_ | refine blk_alloc ?_ _)); exact BK552.out⟩, ⟨by repeat (first | (with_reducible first | exact HB.out | apply below_alloc | apply pw_below_drewN | apply below_drew1 | refine below_set ?_ GE552.out) | exact HB.out)⟩⟩
 case round =>
  clear H'
  try clear c1
  try clear p2
  (try clear BK552)
  obtain ⟨x3_1, x4_1, rfl, HA, HK1, HO_3, BK552, HB⟩ := hrel
  cases gk with
  | zero => exact absurd HA.out (by simp [althingref05_Keys.l0])
  | succ k1 =>
   have H := HA.out
   clear HA
   simp only [althingref05_Keys.l0] at H
   by_cases c3 : x4_1 < (l0_6.length : Int)
   · rw [if_pos c3] at H
     have c3b0 : decide (x4_1 < (l0_6.length : Int)) = true := decide_eq_true c3
     clear c3
     by_cases c4 : 0 ≤ x4_1
     · rw [if_pos c4] at H
       have c4b0 : decide (0 ≤ x4_1) = true := decide_eq_true c4
       clear c4
       by_cases c5 : x3_1.length < 8796093022208
       · rw [if_pos c5] at H
         have LMc5 := Aside0.mk c5
         clear c5
         obtain ⟨y554, hy554⟩ : ∃ y_ : List ByteArray, y_ = (x3_1 ++ [(rd_T38 l0_6 x4_1).f0]) := ⟨_, rfl⟩
         replace H : (althingref05_Keys.l0 k1 y554 (wrap64 (x4_1 + 1)) a0_0 a0_1 a0_2 a0_3 a0_4 a0_5 l0_6 l0_7 a0_8) = some r := by first | (rw [hy554]; with_reducible exact H) | (have H2_ := (Option.bind_some _ _).symm.trans H; rw [hy554]; with_reducible exact H2_) | (have H2_ := (Option.bind_some _ _).symm.trans H; with_reducible exact H2_) | with_reducible exact H | (rw [hy554]; exact H) | exact H
         have Ny554 := Aside0.mk hy554
         clear hy554
         have H' := Aside0.mk H
         clear H
         refine blk9_ BK552.out fun hcz6_0 hcz6_1 hcz6_2 hcz6_3 hcz6_4 hcz6_5 hcz6_6 hcz6_7 hcz6_8 hfz6_0 hfz6_1 hfz6_2 hfz6_3 hfz6_4 hfz6_5 hfz6_6 hfz6_7 hfz6_8 => ?_
         have p553 : 0 ≤ (x4_1 : Int) := of_decide_eq_true (by first | (with_reducible assumption) | assumption)
         have q553 : x4_1 < (l0_6.length : Int) := of_decide_eq_true (by first | (with_reducible assumption) | assumption)
         obtain ⟨ad553, e553, hx553_0, hx553_1, hx553_2⟩ := at_T38 HR0_6.out x4_1 p553 q553
         cases e553
         replace hx553_0 := (HB.out.cell (World.block_lt_of_cell? w _ hx553_0)).trans hx553_0
         replace hx553_1 := (HB.out.cell (World.block_lt_of_cell? w _ hx553_1)).trans hx553_1
         replace hx553_2 := (HB.out.cell (World.block_lt_of_cell? w _ hx553_2)).trans hx553_2
         replace p553 := eq_true p553
         replace q553 := eq_true q553
         go_wp2_with (first | ((with_reducible refine gate_builtin (b := .append) (xs := #[.tmp 13, .tmp 20]) rfl ?_); at_builtin; refine Kd.R_append Kd.string (w0 := w) w.heap.size rfl (.tmp 13) (.tmp 20) 45 9 (.string ⟨#[]⟩) 16 rfl Try.underlying45 info9 rfl (by decide) (by omega) u3 x3_1 ((rd_T38 l0_6 x4_1).f0) [.string ((rd_T38 l0_6 x4_1).f0)] (fun _ => True) (fun _ => False) rfl rfl ?aP (fun _ hk => hk.elim) ?aF ?aO ?aB ?aS ?aL ?_; (case aP => exact rfl); (case aB => exact (by repeat (first | (with_reducible first | exact HB.out | apply below_alloc | apply pw_below_drewN | apply below_drew1 | refine below_set ?_ GE552.out) | exact HB.out))); (case aF => exact (fun _ _ => trivial)); (case aO => exact (kr_ HO_3.out)); (case aS => exact (below_size (by repeat (first | (with_reducible first | exact HB.out | apply below_alloc | apply pw_below_drewN | apply below_drew1 | refine below_set ?_ GE552.out) | exact HB.out)))); (case aL => have := LMc5.out; omega); intro v555 w7 ho hb hg hat; rw [← Ny554.out] at ho; have n0_ := Aside0.mk (blk_grown (kb_ BK552.out) hg (Kd.R_ne HO_3.out BK552.out (by decide))); have n1_ := Aside0.mk (hb); have n2_ := Aside0.mk (ho); clear BK552; clear HB; clear HO_3; have BK552 := n0_; have HB := n1_; have HO556 := n2_; clear n0_ n1_ n2_; clear ho hb hg hat))
         go_roundg k1
         case measure => have := HK1.out; omega
         case rel => exact ⟨(y554), (wrap64 (x4_1 + 1)), (by first | rfl | (simp; done) | (simp [*]; done)), H', ⟨by have := HK1.out; omega⟩, ⟨by (with_reducible repeat (first | apply Kd.R_alloc | apply Kd.R_drewN | apply Kd.R_drew)); exact HO556.out⟩, ⟨by (with_reducible repeat (first | refine blk_drewN ?_ _ | refine blk_drew ?_ | refine blk_alloc ?_ _)); exact BK552.out⟩, ⟨by repeat (first | (with_reducible first | exact HB.out | apply below_alloc | apply pw_below_drewN | apply below_drew1 | refine below_set ?_ GE552.out) | exact HB.out)⟩⟩
       · rw [if_neg c5] at H
         exact absurd H (by simp)
     · rw [if_neg c4] at H
       exact absurd H (by simp)
   · rw [if_neg c3] at H
     have c3b0 : decide (x4_1 < (l0_6.length : Int)) = false := decide_eq_false c3
     clear c3
     have H' := Aside0.mk H
     clear H
     refine blk9_ BK552.out fun hcz8_0 hcz8_1 hcz8_2 hcz8_3 hcz8_4 hcz8_5 hcz8_6 hcz8_7 hcz8_8 hfz8_0 hfz8_1 hfz8_2 hfz8_3 hfz8_4 hfz8_5 hfz8_6 hfz8_7 hfz8_8 => ?_
     go_wp2
     go_loopg [3, 5] k1 (fun kq v3 v5 w' => ∃ (x3_2 : List ByteArray) (x5_2 : Int), v5 = .int .i64 x5_2 ∧ Aside0 (althingref05_Keys.l1 kq x3_2 x5_2 a0_0 a0_1 a0_2 a0_3 a0_4 a0_5 l0_6 l0_7 a0_8 = some r) ∧ Aside0 (kq ≤ k1) ∧ Aside0 (Kd.R Kd.string 9 w' w.heap.size (fun _ => True) v3 x3_2) ∧ Aside0 (w'.heap[gb552]? = some (.cells #[.int .i64 a0_0, .int .i64 a0_1, .int .i64 a0_2, .int .i64 a0_3, .int .i64 a0_4, .int .i64 a0_5, (.slice A0_6 l0_6.length c0_6), (.slice A0_7 l0_7.length c0_7), .bool a0_8] 29 (0, 0))) ∧ Aside0 (Below w.heap.size w w'))
     case atStart => exact ⟨(x3_1), (0), (by first | rfl | (simp; done) | (simp [*]; done)), H', ⟨Nat.le_refl _⟩, ⟨by (with_reducible repeat (first | apply Kd.R_alloc | apply Kd.R_drewN | apply Kd.R_drew)); exact HO_3.out⟩, ⟨by (with_reducible repeat (first | refine blk_drewN ?_ _ | refine blk_drew ?_ | refine blk_alloc ?_ _)); exact BK552.out⟩, ⟨by repeat (first | (with_reducible first | exact HB.out | apply below_alloc | apply pw_below_drewN | apply below_drew1 | refine below_set ?_ GE552.out) | exact HB.out)⟩⟩
     case round =>
      clear H'
      try clear c1
      try clear p2
      try clear c3
      try clear c3b0
      try clear c4
      try clear c4b0
      try clear c5
      try clear p5
      try clear q5
      try clear hx5
      try clear p6
      try clear hcz6_0 hcz6_1 hcz6_2 hcz6_3 hcz6_4 hcz6_5 hcz6_6 hcz6_7 hcz6_8
      try clear hcz8_0 hcz8_1 hcz8_2 hcz8_3 hcz8_4 hcz8_5 hcz8_6 hcz8_7 hcz8_8
      try clear hfz6_0 hfz6_1 hfz6_2 hfz6_3 hfz6_4 hfz6_5 hfz6_6 hfz6_7 hfz6_8
      try clear hfz8_0 hfz8_1 hfz8_2 hfz8_3 hfz8_4 hfz8_5 hfz8_6 hfz8_7 hfz8_8
      try clear hx553_0
      try clear hx553_1
      try clear hx553_2
      try clear p2
      try clear p553
      try clear q553
      (try clear BK552)
      obtain ⟨x3_2, x5_2, rfl, HA, HK2, HO_3, BK552, HB⟩ := hrel
      cases gk with
      | zero => exact absurd HA.out (by simp [althingref05_Keys.l1])
      | succ k2 =>
       have H := HA.out
       clear HA
       simp only [althingref05_Keys.l1] at H
       by_cases c9 : x5_2 < (l0_7.length : Int)
       · rw [if_pos c9] at H
         have c9b0 : decide (x5_2 < (l0_7.length : Int)) = true := decide_eq_true c9
         clear c9
         by_cases c10 : 0 ≤ x5_2
         · rw [if_pos c10] at H
           have c10b0 : decide (0 ≤ x5_2) = true := decide_eq_true c10
           clear c10
           by_cases c11 : x3_2.length < 8796093022208
           · rw [if_pos c11] at H
             have LMc11 := Aside0.mk c11
             clear c11
             obtain ⟨y558, hy558⟩ : ∃ y_ : List ByteArray, y_ = (x3_2 ++ [(rd_T40 l0_7 x5_2).f0]) := ⟨_, rfl⟩
             replace H : (althingref05_Keys.l1 k2 y558 (wrap64 (x5_2 + 1)) a0_0 a0_1 a0_2 a0_3 a0_4 a0_5 l0_6 l0_7 a0_8) = some r := by first | (rw [hy558]; with_reducible exact H) | (have H2_ := (Option.bind_some _ _).symm.trans H; rw [hy558]; with_reducible exact H2_) | (have H2_ := (Option.bind_some _ _).symm.trans H; with_reducible exact H2_) | with_reducible exact H | (rw [hy558]; exact H) | exact H
             have Ny558 := Aside0.mk hy558
             clear hy558
             have H' := Aside0.mk H
             clear H
             refine blk9_ BK552.out fun hcz12_0 hcz12_1 hcz12_2 hcz12_3 hcz12_4 hcz12_5 hcz12_6 hcz12_7 hcz12_8 hfz12_0 hfz12_1 hfz12_2 hfz12_3 hfz12_4 hfz12_5 hfz12_6 hfz12_7 hfz12_8 => ?_
             have p557 : 0 ≤ (x5_2 : Int) := of_decide_eq_true (by first | (with_reducible assumption) | assumption)
             have q557 : x5_2 < (l0_7.length : Int) := of_decide_eq_true (by first | (with_reducible assumption) | assumption)
             obtain ⟨ad557, e557, hx557_0, hx557_1⟩ := at_T40 HR0_7.out x5_2 p557 q557
             cases e557
             replace hx557_0 := (HB.out.cell (World.block_lt_of_cell? w _ hx557_0)).trans hx557_0
             replace hx557_1 := (HB.out.cell (World.block_lt_of_cell? w _ hx557_1)).trans hx557_1
             replace p557 := eq_true p557
             replace q557 := eq_true q557
             go_wp2_with (first | ((with_reducible refine gate_builtin (b := .append) (xs := #[.tmp 29, .tmp 36]) rfl ?_); at_builtin; refine Kd.R_append Kd.string (w0 := w) w.heap.size rfl (.tmp 29) (.tmp 36) 45 9 (.string ⟨#[]⟩) 16 rfl Try.underlying45 info9 rfl (by decide) (by omega) u3 x3_2 ((rd_T40 l0_7 x5_2).f0) [.string ((rd_T40 l0_7 x5_2).f0)] (fun _ => True) (fun _ => False) rfl rfl ?aP (fun _ hk => hk.elim) ?aF ?aO ?aB ?aS ?aL ?_; (case aP => exact rfl); (case aB => exact (by repeat (first | (with_reducible first | exact HB.out | apply below_alloc | apply pw_below_drewN | apply below_drew1 | refine below_set ?_ GE552.out) | exact HB.out))); (case aF => exact (fun _ _ => trivial)); (case aO => exact (kr_ HO_3.out)); (case aS => exact (below_size (by repeat (first | (with_reducible first | exact HB.out | apply below_alloc | apply pw_below_drewN | apply below_drew1 | refine below_set ?_ GE552.out) | exact HB.out)))); (case aL => have := LMc11.out; omega); intro v559 w13 ho hb hg hat; rw [← Ny558.out] at ho; have n0_ := Aside0.mk (blk_grown (kb_ BK552.out) hg (Kd.R_ne HO_3.out BK552.out (by decide))); have n1_ := Aside0.mk (hb); have n2_ := Aside0.mk (ho); clear BK552; clear HB; clear HO_3; have BK552 := n0_; have HB := n1_; have HO560 := n2_; clear n0_ n1_ n2_; clear ho hb hg hat))
             go_roundg k2
             case measure => have := HK1.out; have := HK2.out; omega
             case rel => exact ⟨(y558), (wrap64 (x5_2 + 1)), (by first | rfl | (simp; done) | (simp [*]; done)), H', ⟨by have := HK1.out; have := HK2.out; omega⟩, ⟨by (with_reducible repeat (first | apply Kd.R_alloc | apply Kd.R_drewN | apply Kd.R_drew)); exact HO560.out⟩, ⟨by (with_reducible repeat (first | refine blk_drewN ?_ _ | refine blk_drew ?_ | refine blk_alloc ?_ _)); exact BK552.out⟩, ⟨by repeat (first | (with_reducible first | exact HB.out | apply below_alloc | apply pw_below_drewN | apply below_drew1 | refine below_set ?_ GE552.out) | exact HB.out)⟩⟩
           · rw [if_neg c11] at H
             exact absurd H (by simp)
         · rw [if_neg c10] at H
           exact absurd H (by simp)
       · rw [if_neg c9] at H
         have c9b0 : decide (x5_2 < (l0_7.length : Int)) = false := decide_eq_false c9
         clear c9
         obtain ⟨t561, A14, H⟩ := bs_ H
         obtain rfl := Option.some.inj H
         refine blk9_ BK552.out fun hcz15_0 hcz15_1 hcz15_2 hcz15_3 hcz15_4 hcz15_5 hcz15_6 hcz15_7 hcz15_8 hfz15_0 hfz15_1 hfz15_2 hfz15_3 hfz15_4 hfz15_5 hfz15_6 hfz15_7 hfz15_8 => ?_
         obtain ⟨Ao16, co16, eo16⟩ := Kd.R_slice HO_3.out
         subst eo16
         go_wp2_with (first | ((with_reducible refine gate_callee (f := 20) rfl ?_); refine goesL_ (some 39) rfl rfl Try.func20 (by kernel_rfl) rfl #[.slice Ao16 x3_2.length co16, .slice none 0 0] rfl (by (try simp only [List.map_toArray, List.map_cons, List.map_nil]); first | done | rfl | (simp only [List.length_drop, List.length_take]; rfl)) ?_; (refine (althingref04_Join.calls k2 _ _ x3_2 _ _ ([] : List ByteArray) t561 _ ?side1 ?side2 ?side3 ?side4 A14.out).mono ?_); (case side1 => repeat (first | exact (Kd.R_reads' HO_3.out).2.2 | (with_reducible refine Kd.C_alloc ?_ _) | (with_reducible refine Kd.C_drewN ?_ _) | (with_reducible refine Kd.C_drew ?_))); (case side2 => exact (Kd.R_reads' HO_3.out).2.1); (case side3 => exact Kd.C_nil _ _); (case side4 => exact Nat.le_refl _); rintro e w17 ⟨v562, rfl, ho0, hb⟩; refine ⟨_, rfl, ?_⟩; have n0_ := Aside0.mk (Kd.R_elder' (kr_ HO_3.out) (Kd.R_base ho0) hb); have n1_ := Aside0.mk (Kd.R_lower (Kd.R_new' ho0 (Kd.R_lt (kr_ HO_3.out))) (below_size (by repeat (first | (with_reducible first | exact HB.out | apply below_alloc | apply pw_below_drewN | apply below_drew1 | refine below_set ?_ GE552.out) | exact HB.out)))); have n2_ := Aside0.mk (blk_below (kb_ BK552.out) hb); have n3_ := Aside0.mk (below_step (by repeat (first | (with_reducible first | exact HB.out | apply below_alloc | apply pw_below_drewN | apply below_drew1 | refine below_set ?_ GE552.out) | exact HB.out)) hb); clear HO_3; clear BK552; clear HB; have HO_3 := n0_; have HO563 := n1_; have BK552 := n2_; have HB := n3_; clear n0_ n1_ n2_ n3_; (try clear hb); (try clear hb2); (try clear hk); (try clear hi); (try clear ho0)))
         go_ret
         exact ⟨_, by first | rfl | (simp [errW_none, errW_some] <;> rfl) | (simp [*, errW_none, errW_some] <;> rfl), by (with_reducible repeat (first | apply Kd.R_alloc | apply Kd.R_drewN | apply Kd.R_drew)); exact Kd.R_mono HO563.out (fun _ hk => trivial), by repeat (first | (with_reducible first | exact HB.out | apply below_alloc | apply pw_below_drewN | apply below_drew1 | refine below_set ?_ GE552.out) | exact HB.out)⟩
end Go.Proofs.Ytnjeeedndnfglaa.X
end
section
namespace Go.Proofs.Ytnjeeedndnfglaa.X
open Go.RowKit Go.Proofs.YtnjeeedndnfglaaW.PrintWords Go.Proofs.YtnjeeedndnfglaaW.PrintLast Go.Proofs.YtnjeeedndnfglaaW.PrintMore
attribute [local go_sem] max2_int min2_int max_two min_two max_three min_three max_four min_four   -- for this text's walks alone
set_option linter.unusedVariables false
set_option linter.unusedSimpArgs false
/-! ### althinglaw05_same: function 19 -/
def althinglaw05_same.l0 : Nat → List ByteArray → List ByteArray → Int → Int → Option (Bool)
 | 0, _, _, _, _ => none
 | k + 1, x0, x1, x12, x13 => if x13 < x12 then (if 0 ≤ x13 then (if x13 < (x0.length : Int) then (if x13 < (x1.length : Int) then (if (rdOf ByteArray.empty x0 x13).toList = (rdOf ByteArray.empty x1 x13).toList then (althinglaw05_same.l0 k x0 x1 x12 (wrap64 (x13 + 1))) else (some false)) else (none)) else (none)) else (none)) else (some true)
def althinglaw05_same.f (k : Nat) (l0 : List ByteArray) (l1 : List ByteArray) : Option (Bool) := if (l0.length : Int) = (l1.length : Int) then (althinglaw05_same.l0 k l0 l1 (l0.length : Int) 0) else (some false)
set_option maxHeartbeats 8000000 in
set_option maxRecDepth 100000 in
theorem althinglaw05_same.calls (k : Nat) (A0 : Option Addr) (c0 : Nat) (l0 : List ByteArray) (A1 : Option Addr) (c1 : Nat) (l1 : List ByteArray) (r : Bool) (w : World) (hr0 : Kd.C Kd.string w A0 l0.length l0) (hc0 : l0.length ≤ c0) (hr1 : Kd.C Kd.string w A1 l1.length l1) (hc1 : l1.length ≤ c1) (h : althinglaw05_same.f k l0 l1 = some r) :
 Calls Try.prog 19 #[.slice A0 l0.length c0, .slice A1 l1.length c1] w fun e w' => e = .returned (.bool r) ∧ Drawn0 w w' := by
 have HR0 := Aside0.mk hr0
 have HC0 := Aside0.mk hc0
 clear hr0 hc0
 have HR1 := Aside0.mk hr1
 have HC1 := Aside0.mk hc1
 clear hr1 hc1
 have H : (if (l0.length : Int) = (l1.length : Int) then (althinglaw05_same.l0 k l0 l1 (l0.length : Int) 0) else (some false)) = some r := h
 clear h
 by_cases c3 : (l0.length : Int) = (l1.length : Int)
 · rw [if_pos c3] at H
   have c3b0 : ((l0.length : Int) == (l1.length : Int)) = true := beq_iff_eq.mpr c3
   have c3b1 : ((l0.length : Int) != (l1.length : Int)) = false := bne_eq_false_iff_eq.mpr c3
   have c3b2 : (l0.length == l1.length) = true := by first | simpa using c3 | (simp at c3 ⊢; omega)
   clear c3
   have H' := Aside0.mk H
   clear H
   go_enter Try.func19, Try.ntmps19
   go_wp2
   repeat (go_quiet (fail); try go_wp2)
   go_loopg [13] k (fun kq v13 w' => ∃ (x13_1 : Int), v13 = .int .i64 x13_1 ∧ Aside0 (althinglaw05_same.l0 kq l0 l1 (l0.length : Int) x13_1 = some r) ∧ Aside0 (kq ≤ k) ∧ Drawn0 w w')
   case atStart => exact ⟨(0), (by first | rfl | (simp; done) | (simp [*]; done)), H', ⟨Nat.le_refl _⟩, by repeat (first | exact Drawn0.refl _ | apply Drawn0.step)⟩
   case round =>
    clear H'
    try clear c1
    try clear p2
    try clear c3
    try clear c3b0
    try clear c3b1
    try clear c3b2
    obtain ⟨x13_1, rfl, HA, HK1, ⟨m1, rfl⟩⟩ := hrel
    cases gk with
    | zero => exact absurd HA.out (by simp [althinglaw05_same.l0])
    | succ k1 =>
     have H := HA.out
     clear HA
     simp only [althinglaw05_same.l0] at H
     by_cases c4 : x13_1 < (l0.length : Int)
     · rw [if_pos c4] at H
       have c4b0 : decide (x13_1 < (l0.length : Int)) = true := decide_eq_true c4
       clear c4
       by_cases c5 : 0 ≤ x13_1
       · rw [if_pos c5] at H
         have c5b0 : decide (0 ≤ x13_1) = true := decide_eq_true c5
         clear c5
         by_cases c6 : x13_1 < (l0.length : Int)
         · rw [if_pos c6] at H
           have c6b0 : decide (x13_1 < (l0.length : Int)) = true := decide_eq_true c6
           clear c6
           by_cases c7 : x13_1 < (l1.length : Int)
           · rw [if_pos c7] at H
             have c7b0 : decide (x13_1 < (l1.length : Int)) = true := decide_eq_true c7
             clear c7
             by_cases c8 : (rdOf ByteArray.empty l0 x13_1).toList = (rdOf ByteArray.empty l1 x13_1).toList
             · rw [if_pos c8] at H
               have c8b0 : ((rdOf ByteArray.empty l0 x13_1).toList == (rdOf ByteArray.empty l1 x13_1).toList) = true := beq_iff_eq.mpr c8
               have c8b1 : ((rdOf ByteArray.empty l0 x13_1).toList != (rdOf ByteArray.empty l1 x13_1).toList) = false := bne_eq_false_iff_eq.mpr c8
               clear c8
               have H' := Aside0.mk H
               clear H
               have p564 : 0 ≤ (x13_1 : Int) := of_decide_eq_true (by first | (with_reducible assumption) | assumption)
               have q564 : x13_1 < (l0.length : Int) := of_decide_eq_true (by first | (with_reducible assumption) | assumption)
               obtain ⟨ad564, e564, hx564_0⟩ := Kd.at_string HR0.out x13_1 p564 q564
               cases e564
               replace p564 := eq_true p564
               replace q564 := eq_true q564
               have p565 : 0 ≤ (x13_1 : Int) := of_decide_eq_true (by first | (with_reducible assumption) | assumption)
               have q565 : x13_1 < (l1.length : Int) := of_decide_eq_true (by first | (with_reducible assumption) | assumption)
               obtain ⟨ad565, e565, hx565_0⟩ := Kd.at_string HR1.out x13_1 p565 q565
               cases e565
               replace p565 := eq_true p565
               replace q565 := eq_true q565
               go_wp2
               repeat (go_quiet (fail); try go_wp2)
               go_roundg k1
               case measure => have := HK1.out; omega
               case rel => exact ⟨(wrap64 (x13_1 + 1)), (by first | rfl | (simp; done) | (simp [*]; done)), H', ⟨by have := HK1.out; omega⟩, by repeat (first | exact Drawn0.refl _ | apply Drawn0.step)⟩
             · rw [if_neg c8] at H
               have c8b0 : ((rdOf ByteArray.empty l0 x13_1).toList == (rdOf ByteArray.empty l1 x13_1).toList) = false := beq_eq_false_iff_ne.mpr c8
               have c8b1 : ((rdOf ByteArray.empty l0 x13_1).toList != (rdOf ByteArray.empty l1 x13_1).toList) = true := bne_iff_ne.mpr c8
               obtain rfl := Option.some.inj H
               have p564 : 0 ≤ (x13_1 : Int) := of_decide_eq_true (by first | (with_reducible assumption) | assumption)
               have q564 : x13_1 < (l0.length : Int) := of_decide_eq_true (by first | (with_reducible assumption) | assumption)
               obtain ⟨ad564, e564, hx564_0⟩ := Kd.at_string HR0.out x13_1 p564 q564
               cases e564
               replace p564 := eq_true p564
               replace q564 := eq_true q564
               have p565 : 0 ≤ (x13_1 : Int) := of_decide_eq_true (by first | (with_reducible assumption) | assumption)
               have q565 : x13_1 < (l1.length : Int) := of_decide_eq_true (by first | (with_reducible assumption) | assumption)
               obtain ⟨ad565, e565, hx565_0⟩ := Kd.at_string HR1.out x13_1 p565 q565
               cases e565
               replace p565 := eq_true p565
               replace q565 := eq_true q565
               go_wp2
               repeat (go_quiet (fail); try go_wp2)
               go_ret
               exact ⟨by first | rfl | (simp; done) | (simp [*]; done), by repeat (first | exact Drawn0.refl _ | apply Drawn0.step)⟩
           · rw [if_neg c7] at H
             exact absurd H (by simp)
         · rw [if_neg c6] at H
           exact absurd H (by simp)
       · rw [if_neg c5] at H
         exact absurd H (by simp)
     · rw [if_neg c4] at H
       have c4b0 : decide (x13_1 < (l0.length : Int)) = false := decide_eq_false c4
       clear c4
       obtain rfl := Option.some.inj H
       go_wp2
       repeat (go_quiet (fail); try go_wp2)
       go_ret
       exact ⟨by first | rfl | (simp; done) | (simp [*]; done), by repeat (first | exact Drawn0.refl _ | apply Drawn0.step)⟩
 · rw [if_neg c3] at H
   have c3b0 : ((l0.length : Int) == (l1.length : Int)) = false := beq_eq_false_iff_ne.mpr c3
   have c3b1 : ((l0.length : Int) != (l1.length : Int)) = true := bne_iff_ne.mpr c3
   have c3b2 : (l0.length == l1.length) = false := by first | simpa using c3 | (simp at c3 ⊢; omega)
   obtain rfl := Option.some.inj H
   go_enter Try.func19, Try.ntmps19
   go_wp2
   repeat (go_quiet (fail); try go_wp2)
   go_ret
   exact ⟨by first | rfl | (simp; done) | (simp [*]; done), by repeat (first | exact Drawn0.refl _ | apply Drawn0.step)⟩
end Go.Proofs.Ytnjeeedndnfglaa.X
end
section
namespace Go.Proofs.Ytnjeeedndnfglaa.X
open Go.RowKit Go.Proofs.YtnjeeedndnfglaaW.PrintWords Go.Proofs.YtnjeeedndnfglaaW.PrintLast Go.Proofs.YtnjeeedndnfglaaW.PrintMore
attribute [local go_sem] max2_int min2_int max_two min_two max_three min_three max_four min_four   -- for this text's walks alone
set_option linter.unusedVariables false
set_option linter.unusedSimpArgs false
/-! ### althinglaw05_CommandWhole: function 6 -/
mutual
def althinglaw05_CommandWhole.j0 : Nat → Int → Bool → Int → Int → Int → Int → Int → Int → List (S38) → List (S40) → Bool → Option (Bool)
 | 0, _, _, _, _, _, _, _, _, _, _, _ => none
 | k + 1, x1, x33, x567000, x567001, x567002, x567003, x567004, x567005, x567006, x567007, x567008 => if x33 = true then ((althinglaw05_awake.f k).bind fun t572 => (some t572)) else (althinglaw05_CommandWhole.l0 k x1 0 0 ([] : List ByteArray) x1 0 x567000 x567001 x567002 x567003 x567004 x567005 x567006 x567007 x567008)
def althinglaw05_CommandWhole.l0 : Nat → Int → Int → Int → List ByteArray → Int → Int → Int → Int → Int → Int → Int → Int → List (S38) → List (S40) → Bool → Option (Bool)
 | 0, _, _, _, _, _, _, _, _, _, _, _, _, _, _, _ => none
 | k + 1, x1, x5, x6, x7, x35, x36, x567000, x567001, x567002, x567003, x567004, x567005, x567006, x567007, x567008 => if x36 < x35 then ((command_Part.f k x567000 x567001 x567002 x567003 x567004 x567005 x567006 x567007 x567008 x36 x1).bind fun bt578 => ((althingref05_Keys.f k x567000 x567001 x567002 x567003 x567004 x567005 x567006 x567007 x567008).bind fun t593 => ((keys_Of.f k t593 x36 x1).bind fun t596 => (if ((bt578.2.2.2.2.2.2.2.2.2 == 10) != ((t596.length : Int) == 0)) = true then (none) else (if bt578.2.2.2.2.2.2.2.2.2 = 0 then ((althingref05_Right.f k bt578.1 bt578.2.1 bt578.2.2.1 bt578.2.2.2.1 bt578.2.2.2.2.1 bt578.2.2.2.2.2.1 bt578.2.2.2.2.2.2.1 bt578.2.2.2.2.2.2.2.1 bt578.2.2.2.2.2.2.2.2.1).bind fun t599 => (if t599 = true then ((althingref05_Keys.f k bt578.1 bt578.2.1 bt578.2.2.1 bt578.2.2.2.1 bt578.2.2.2.2.1 bt578.2.2.2.2.2.1 bt578.2.2.2.2.2.2.1 bt578.2.2.2.2.2.2.2.1 bt578.2.2.2.2.2.2.2.2.1).bind fun t600 => ((althinglaw05_same.f k t600 t596).bind fun t603 => (if t603 = true then ((althingref04_Join.f k x7 t596).bind fun t604 => (althinglaw05_CommandWhole.l0 k x1 (wrap64 (x5 + (bt578.2.2.2.2.2.2.1.length : Int))) (wrap64 (x6 + (bt578.2.2.2.2.2.2.2.1.length : Int))) t604 x35 (wrap64 (x36 + 1)) x567000 x567001 x567002 x567003 x567004 x567005 x567006 x567007 x567008)) else (none)))) else (none))) else ((althingref04_Join.f k x7 t596).bind fun t607 => (althinglaw05_CommandWhole.l0 k x1 (wrap64 (x5 + (bt578.2.2.2.2.2.2.1.length : Int))) (wrap64 (x6 + (bt578.2.2.2.2.2.2.2.1.length : Int))) t607 x35 (wrap64 (x36 + 1)) x567000 x567001 x567002 x567003 x567004 x567005 x567006 x567007 x567008))))))) else (if x5 = (x567006.length : Int) then (if x6 = (x567007.length : Int) then ((althingref05_Keys.f k x567000 x567001 x567002 x567003 x567004 x567005 x567006 x567007 x567008).bind fun t573 => ((althinglaw05_same.f k x7 t573).bind fun t576 => (if t576 = true then ((althinglaw05_awake.f k).bind fun t577 => (some t577)) else (none)))) else (none)) else (none))
end
def althinglaw05_CommandWhole.f (k : Nat) (a0_0 : Int) (a0_1 : Int) (a0_2 : Int) (a0_3 : Int) (a0_4 : Int) (a0_5 : Int) (l0_6 : List (S38)) (l0_7 : List (S40)) (a0_8 : Bool) (a1 : Int) : Option (Bool) := (althinglaw05_Few.f k (([(⟨a0_0, (⟨a0_1, a0_2⟩ : S23), (⟨a0_3, a0_4⟩ : S25), a0_5, l0_6, l0_7, a0_8⟩ : S29)] : List (S29)))).bind fun t570 => (if t570 = true then ((althingref05_Right.f k a0_0 a0_1 a0_2 a0_3 a0_4 a0_5 l0_6 l0_7 a0_8).bind fun t571 => (if t571 = true then (if a0_0 = 0 then (althinglaw05_CommandWhole.j0 k a1 true a0_0 a0_1 a0_2 a0_3 a0_4 a0_5 l0_6 l0_7 a0_8) else (if a1 < 1 then (althinglaw05_CommandWhole.j0 k a1 true a0_0 a0_1 a0_2 a0_3 a0_4 a0_5 l0_6 l0_7 a0_8) else (althinglaw05_CommandWhole.j0 k a1 (decide (a1 > 4)) a0_0 a0_1 a0_2 a0_3 a0_4 a0_5 l0_6 l0_7 a0_8))) else (althinglaw05_CommandWhole.j0 k a1 true a0_0 a0_1 a0_2 a0_3 a0_4 a0_5 l0_6 l0_7 a0_8))) else (althinglaw05_CommandWhole.j0 k a1 true a0_0 a0_1 a0_2 a0_3 a0_4 a0_5 l0_6 l0_7 a0_8))
set_option maxHeartbeats 8000000 in
set_option maxRecDepth 100000 in
theorem althinglaw05_CommandWhole.calls (k : Nat) (a0_0 : Int) (a0_1 : Int) (a0_2 : Int) (a0_3 : Int) (a0_4 : Int) (a0_5 : Int) (P0_6_ : Nat → Prop) (A0_6 : Option Addr) (c0_6 : Nat) (l0_6 : List (S38)) (P0_7_ : Nat → Prop) (A0_7 : Option Addr) (c0_7 : Nat) (l0_7 : List (S40)) (a0_8 : Bool) (a1 : Int) (r : Bool) (w : World) (hs0_6 : Kd.V k38 38 w w.heap.size (fun k_ => P0_6_ k_) (.slice A0_6 l0_6.length c0_6) l0_6) (hs0_7 : Kd.V k40 40 w w.heap.size (fun k_ => P0_7_ k_) (.slice A0_7 l0_7.length c0_7) l0_7) (h : althinglaw05_CommandWhole.f k a0_0 a0_1 a0_2 a0_3 a0_4 a0_5 l0_6 l0_7 a0_8 a1 = some r) :
 Calls Try.prog 6 #[.agg #[.int .i64 a0_0, .int .i64 a0_1, .int .i64 a0_2, .int .i64 a0_3, .int .i64 a0_4, .int .i64 a0_5, .slice A0_6 l0_6.length c0_6, .slice A0_7 l0_7.length c0_7, .bool a0_8], .int .i64 a1] w fun e w' => e = .returned (.bool r) ∧ Below w.heap.size w w' := by
 have hu29 := Try.underlying29
 have HO0_6 := Aside0.mk (show Kd.V k38 38 w w.heap.size (fun k_ => ((P0_6_ k_ ∨ P0_7_ k_) ∨ w.heap.size ≤ k_)) (.slice A0_6 l0_6.length c0_6) l0_6 from Kd.V_mono hs0_6 (fun k_ hk => .inl (.inl hk)))
 have HO0_7 := Aside0.mk (show Kd.V k40 40 w w.heap.size (fun k_ => ((P0_6_ k_ ∨ P0_7_ k_) ∨ w.heap.size ≤ k_)) (.slice A0_7 l0_7.length c0_7) l0_7 from Kd.V_mono hs0_7 (fun k_ hk => .inl (.inr hk)))
 have HB := Aside0.mk (Below.refl w.heap.size w)
 have H : ((althinglaw05_Few.f k (([(⟨a0_0, (⟨a0_1, a0_2⟩ : S23), (⟨a0_3, a0_4⟩ : S25), a0_5, l0_6, l0_7, a0_8⟩ : S29)] : List (S29)))).bind fun t570 => (if t570 = true then ((althingref05_Right.f k a0_0 a0_1 a0_2 a0_3 a0_4 a0_5 l0_6 l0_7 a0_8).bind fun t571 => (if t571 = true then (if a0_0 = 0 then (althinglaw05_CommandWhole.j0 k a1 true a0_0 a0_1 a0_2 a0_3 a0_4 a0_5 l0_6 l0_7 a0_8) else (if a1 < 1 then (althinglaw05_CommandWhole.j0 k a1 true a0_0 a0_1 a0_2 a0_3 a0_4 a0_5 l0_6 l0_7 a0_8) else (althinglaw05_CommandWhole.j0 k a1 (decide (a1 > 4)) a0_0 a0_1 a0_2 a0_3 a0_4 a0_5 l0_6 l0_7 a0_8))) else (althinglaw05_CommandWhole.j0 k a1 true a0_0 a0_1 a0_2 a0_3 a0_4 a0_5 l0_6 l0_7 a0_8))) else (althinglaw05_CommandWhole.j0 k a1 true a0_0 a0_1 a0_2 a0_3 a0_4 a0_5 l0_6 l0_7 a0_8))) = some r := h
 clear h
 have HC3 := Aside0.mk H
 clear H
 go_enter Try.func6, Try.ntmps6
 have hq0 := True.intro
 repeat ((first | clear hq0 | go_quiet (fail)); try go_upto_region 1 with (first | ((with_reducible refine gate_dst (N := 2) rfl ?_); (try (refine gate_guard (by rfl) ?_; dsimp only)); refine box_event ?hg (N := 2) ?hd (cs := #[.int .i64 a0_0, .int .i64 a0_1, .int .i64 a0_2, .int .i64 a0_3, .int .i64 a0_4, .int .i64 a0_5, .slice A0_6 l0_6.length c0_6, .slice A0_7 l0_7.length c0_7, .bool a0_8]) (t := 29) ?hr ?_; (case hd => rfl); (case hg => rfl); (case hr => first | (go_simp; done) | (go_simp; rfl)); intro gb566 hg w4 hbox hb; have n0_ := Aside0.mk (Kd.V_below (Kd.V_elderB (kv_ HO0_6.out) gb566 (Nat.le_of_eq hg.symm)) hb); have n1_ := Aside0.mk (Kd.V_below (Kd.V_elderB (kv_ HO0_7.out) gb566 (Nat.le_of_eq hg.symm)) hb); have n2_ := Aside0.mk (below_step lb_ hb); have n3_ := Aside0.mk (hbox); have n4_ := Aside0.mk ((by rw [hg]; exact (below_size lb_) : w.heap.size ≤ gb566)); have n5_ := Aside0.mk ((by rw [hg]; exact (below_size lb_) : w.heap.size ≤ gb566)); clear HO0_6; clear HO0_7; clear HB; have HO0_6 := n0_; have HO0_7 := n1_; have HB := n2_; have BK566 := n3_; have GW566 := n4_; have GE566 := n5_; clear n0_ n1_ n2_ n3_ n4_ n5_; clear hb hbox hg)))
 (try simp only [Act.put, List.setIfInBounds_toArray, List.set_cons_zero, List.set_cons_succ])
 go_cut [33] (fun v33 wc => ∃ (kq : Nat) (x33_2 : Bool), v33 = .bool x33_2 ∧ Aside0 (althinglaw05_CommandWhole.j0 kq a1 x33_2 a0_0 a0_1 a0_2 a0_3 a0_4 a0_5 l0_6 l0_7 a0_8 = some r) ∧ Aside0 (kq ≤ k) ∧ Aside0 (Kd.V k38 38 wc w.heap.size (fun k_ => ((P0_6_ k_ ∨ P0_7_ k_) ∨ w.heap.size ≤ k_) ∧ k_ ≠ gb566) (.slice A0_6 l0_6.length c0_6) l0_6) ∧ Aside0 (Kd.V k40 40 wc w.heap.size (fun k_ => ((P0_6_ k_ ∨ P0_7_ k_) ∨ w.heap.size ≤ k_) ∧ k_ ≠ gb566) (.slice A0_7 l0_7.length c0_7) l0_7) ∧ Aside0 (wc.heap[gb566]? = some (.cells #[.int .i64 a0_0, .int .i64 a0_1, .int .i64 a0_2, .int .i64 a0_3, .int .i64 a0_4, .int .i64 a0_5, (.slice A0_6 l0_6.length c0_6), (.slice A0_7 l0_7.length c0_7), .bool a0_8] 29 (0, 0))) ∧ Aside0 (Below w.heap.size w wc))
 case first =>
  have H := HC3.out
  clear HC3
  obtain ⟨y567, hy567⟩ : ∃ y_ : List (S29), y_ = (([(⟨a0_0, (⟨a0_1, a0_2⟩ : S23), (⟨a0_3, a0_4⟩ : S25), a0_5, l0_6, l0_7, a0_8⟩ : S29)] : List (S29))) := ⟨_, rfl⟩
  replace H : ((althinglaw05_Few.f k y567).bind fun t570 => (if t570 = true then ((althingref05_Right.f k a0_0 a0_1 a0_2 a0_3 a0_4 a0_5 l0_6 l0_7 a0_8).bind fun t571 => (if t571 = true then (if a0_0 = 0 then (althinglaw05_CommandWhole.j0 k a1 true a0_0 a0_1 a0_2 a0_3 a0_4 a0_5 l0_6 l0_7 a0_8) else (if a1 < 1 then (althinglaw05_CommandWhole.j0 k a1 true a0_0 a0_1 a0_2 a0_3 a0_4 a0_5 l0_6 l0_7 a0_8) else (althinglaw05_CommandWhole.j0 k a1 (decide (a1 > 4)) a0_0 a0_1 a0_2 a0_3 a0_4 a0_5 l0_6 l0_7 a0_8))) else (althinglaw05_CommandWhole.j0 k a1 true a0_0 a0_1 a0_2 a0_3 a0_4 a0_5 l0_6 l0_7 a0_8))) else (althinglaw05_CommandWhole.j0 k a1 true a0_0 a0_1 a0_2 a0_3 a0_4 a0_5 l0_6 l0_7 a0_8))) = some r := by first | (rw [hy567]; with_reducible exact H) | (have H2_ := (Option.bind_some _ _).symm.trans H; rw [hy567]; with_reducible exact H2_) | (have H2_ := (Option.bind_some _ _).symm.trans H; with_reducible exact H2_) | with_reducible exact H | (rw [hy567]; exact H) | exact H
  have Ny567 := Aside0.mk hy567
  clear hy567
  obtain ⟨t570, A5, H⟩ := bs_ H
  by_cases c6 : t570 = true
  · subst c6
    rw [if_pos rfl] at H
    obtain ⟨t571, A7, H⟩ := bs_ H
    by_cases c8 : t571 = true
    · subst c8
      rw [if_pos rfl] at H
      by_cases c9 : a0_0 = 0
      · rw [if_pos c9] at H
        have c9b0 : (a0_0 == 0) = true := beq_iff_eq.mpr c9
        have c9b1 : (a0_0 != 0) = false := bne_eq_false_iff_eq.mpr c9
        clear c9
        (first | rw [c9b0] | (simp only [i64_w, i32_w]; rw [c9b0]) | skip)
        have H' := Aside0.mk H
        clear H
        have hq0 := True.intro
        repeat ((first | clear hq0 | go_quiet (fail)); try go_wp2_with (first | ((with_reducible refine gate_dst (N := 12) rfl ?_); refine blk_load_event ?lg (N := 12) ?ld (t := 29) (x := ?lxxz10) ?lo (g := gb566) ?lx (cs := _) BK566.out ?lD ?lt ?_; (case lg => rfl); (case ld => rfl); (case lo => rfl); (case lx => first | rfl | (go_simp; done) | (go_simp; rfl)); (case lD => exact ⟨_, Try.underlying29, rfl⟩); (case lt => kernel_rfl)) | ((with_reducible refine gate_dst (N := 13) rfl ?_); (try (refine gate_guard (by rfl) ?_; dsimp only)); refine Kd.N_lit k29 _ 29 ?hg (N' := 13) ?hd (xs := ([(⟨a0_0, (⟨a0_1, a0_2⟩ : S23), (⟨a0_3, a0_4⟩ : S25), a0_5, l0_6, l0_7, a0_8⟩ : S29)] : List (S29))) (inner := [.int .i64 a0_0, .int .i64 a0_1, .int .i64 a0_2, .int .i64 a0_3, .int .i64 a0_4, .int .i64 a0_5, .slice A0_6 l0_6.length c0_6, .slice A0_7 l0_7.length c0_7, .bool a0_8]) (ok := (fun k_ => ((P0_6_ k_ ∨ P0_7_ k_) ∨ w.heap.size ≤ k_) ∧ k_ ≠ gb566)) (okp := (fun k_ => ((P0_6_ k_ ∨ P0_7_ k_) ∨ w.heap.size ≤ k_) ∧ k_ ≠ gb566)) ?hr ?hp (fun _ hk => hk) ((show ∀ k_, w4.heap.size ≤ k_ → (fun k_ => ((P0_6_ k_ ∨ P0_7_ k_) ∨ w.heap.size ≤ k_) ∧ k_ ≠ gb566) k_ from fun k_ hk => ⟨(.inr (Nat.le_trans (below_size (by repeat (first | (with_reducible first | exact HB.out | apply below_alloc | apply pw_below_drewN | apply below_drew1 | refine below_set ?_ GE566.out) | exact HB.out))) hk)), Kd.freshB (g := gb566) (o := .cells #[.int .i64 a0_0, .int .i64 a0_1, .int .i64 a0_2, .int .i64 a0_3, .int .i64 a0_4, .int .i64 a0_5, .slice A0_6 l0_6.length c0_6, .slice A0_7 l0_7.length c0_7, .bool a0_8] 29 (0, 0)) (kb_ BK566.out) k_ hk⟩) _ (Nat.le_refl _)) (Below.refl _ _) (Nat.le_refl _) (by simp) ?_; (case hd => rfl); (case hg => rfl); (case hr => first | (go_simp; done) | (go_simp; rfl)); (case hp => exact (Reps.c9 (show Kd.FK k29 _ _ (⟨a0_0, (⟨a0_1, a0_2⟩ : S23), (⟨a0_3, a0_4⟩ : S25), a0_5, l0_6, l0_7, a0_8⟩ : S29) [.int .i64 a0_0, .int .i64 a0_1, .int .i64 a0_2, .int .i64 a0_3, .int .i64 a0_4, .int .i64 a0_5, .slice A0_6 l0_6.length c0_6, .slice A0_7 l0_7.length c0_7, .bool a0_8] from (k29_mkF _ _ (⟨a0_0, (⟨a0_1, a0_2⟩ : S23), (⟨a0_3, a0_4⟩ : S25), a0_5, l0_6, l0_7, a0_8⟩ : S29) (Kd.V_reads' (Kd.V_mono (ok' := (fun k_ => ((P0_6_ k_ ∨ P0_7_ k_) ∨ w.heap.size ≤ k_) ∧ k_ ≠ gb566)) (HO0_6.out) (fun k_ hk => ⟨hk.1, hk.2⟩))).2.1 (Kd.V_F (Kd.V_mono (ok' := (fun k_ => ((P0_6_ k_ ∨ P0_7_ k_) ∨ w.heap.size ≤ k_) ∧ k_ ≠ gb566)) (HO0_6.out) (fun k_ hk => ⟨hk.1, hk.2⟩))) (Kd.V_reads' (Kd.V_mono (ok' := (fun k_ => ((P0_6_ k_ ∨ P0_7_ k_) ∨ w.heap.size ≤ k_) ∧ k_ ≠ gb566)) (HO0_7.out) (fun k_ hk => ⟨hk.1, hk.2⟩))).2.1 (Kd.V_F (Kd.V_mono (ok' := (fun k_ => ((P0_6_ k_ ∨ P0_7_ k_) ∨ w.heap.size ≤ k_) ∧ k_ ≠ gb566)) (HO0_7.out) (fun k_ hk => ⟨hk.1, hk.2⟩))))) (Reps.none _ _))); intro v568 w11 ho12 hb hg_ hnew_; clear hg_ hnew_; (first | rw [← Ny567.out] at ho12 | (simp only [Int.reduceToNat] at ho12; rw [← Ny567.out] at ho12)); have n0_ := Aside0.mk (Kd.V_elder' (kv_ HO0_6.out) (Kd.N_base ho12) hb); have n1_ := Aside0.mk (Kd.V_elder' (kv_ HO0_7.out) (Kd.N_base ho12) hb); have n2_ := Aside0.mk (Kd.N_lower ho12 (below_size (by repeat (first | (with_reducible first | exact HB.out | apply below_alloc | apply pw_below_drewN | apply below_drew1 | refine below_set ?_ GE566.out) | exact HB.out)))); have n3_ := Aside0.mk (blk_below (kb_ BK566.out) hb); have n4_ := Aside0.mk (below_step (by repeat (first | (with_reducible first | exact HB.out | apply below_alloc | apply pw_below_drewN | apply below_drew1 | refine below_set ?_ GE566.out) | exact HB.out)) hb); clear HO0_6; clear HO0_7; clear BK566; clear HB; have HO0_6 := n0_; have HO0_7 := n1_; have HO569 := n2_; have BK566 := n3_; have HB := n4_; clear n0_ n1_ n2_ n3_ n4_; clear hb ho12; obtain ⟨Ao13, co13, eo13⟩ := Kd.N_slice HO569.out; subst eo13) | (go_at_call 8; (with_reducible refine (althinglaw05_Few.calls k _ _ y567 true _ ?side1 ?side2 A5.out).mono ?_); (case side1 => repeat (first | exact (Kd.N_reads' HO569.out).2.2 | (with_reducible refine Kd.C_alloc ?_ _) | (with_reducible refine Kd.C_drewN ?_ _) | (with_reducible refine Kd.C_drew ?_))); (case side2 => exact (Kd.N_reads' HO569.out).2.1); rintro e w14 ⟨rfl, hb⟩; have n0_ := Aside0.mk (Kd.V_below (kv_ HO0_6.out) hb); have n1_ := Aside0.mk (Kd.V_below (kv_ HO0_7.out) hb); have n2_ := Aside0.mk (Kd.N_below (kn_ HO569.out) hb); have n3_ := Aside0.mk (blk_below (kb_ BK566.out) hb); have n4_ := Aside0.mk (below_step (by repeat (first | (with_reducible first | exact HB.out | apply below_alloc | apply pw_below_drewN | apply below_drew1 | refine below_set ?_ GE566.out) | exact HB.out)) hb); clear HO0_6; clear HO0_7; clear HO569; clear BK566; clear HB; have HO0_6 := n0_; have HO0_7 := n1_; have HO569 := n2_; have BK566 := n3_; have HB := n4_; clear n0_ n1_ n2_ n3_ n4_; (try clear hb); (try clear hb2); (try clear hk); (try clear hi); refine blk9_ BK566.out fun hcz15_0 hcz15_1 hcz15_2 hcz15_3 hcz15_4 hcz15_5 hcz15_6 hcz15_7 hcz15_8 hfz15_0 hfz15_1 hfz15_2 hfz15_3 hfz15_4 hfz15_5 hfz15_6 hfz15_7 hfz15_8 => ?_) | (go_at_call 16; (with_reducible refine (althingref05_Right.calls k a0_0 a0_1 a0_2 a0_3 a0_4 a0_5 _ _ l0_6 _ _ l0_7 a0_8 true _ ?side1 ?side2 ?side3 ?side4 A7.out).mono ?_); (case side1 => repeat (first | exact (Kd.V_reads' HO0_6.out).2.2 | (with_reducible refine Kd.C_alloc ?_ _) | (with_reducible refine Kd.C_drewN ?_ _) | (with_reducible refine Kd.C_drew ?_))); (case side2 => exact (Kd.V_reads' HO0_6.out).2.1); (case side3 => repeat (first | exact (Kd.V_reads' HO0_7.out).2.2 | (with_reducible refine Kd.C_alloc ?_ _) | (with_reducible refine Kd.C_drewN ?_ _) | (with_reducible refine Kd.C_drew ?_))); (case side4 => exact (Kd.V_reads' HO0_7.out).2.1); rintro e w16 ⟨rfl, hb⟩; have n0_ := Aside0.mk (Kd.V_below (kv_ HO0_6.out) hb); have n1_ := Aside0.mk (Kd.V_below (kv_ HO0_7.out) hb); have n2_ := Aside0.mk (Kd.N_below (kn_ HO569.out) hb); have n3_ := Aside0.mk (blk_below (kb_ BK566.out) hb); have n4_ := Aside0.mk (below_step (by repeat (first | (with_reducible first | exact HB.out | apply below_alloc | apply pw_below_drewN | apply below_drew1 | refine below_set ?_ GE566.out) | exact HB.out)) hb); clear HO0_6; clear HO0_7; clear HO569; clear BK566; clear HB; have HO0_6 := n0_; have HO0_7 := n1_; have HO569 := n2_; have BK566 := n3_; have HB := n4_; clear n0_ n1_ n2_ n3_ n4_; (try clear hb); (try clear hb2); (try clear hk); (try clear hi); refine blk9_ BK566.out fun hcz17_0 hcz17_1 hcz17_2 hcz17_3 hcz17_4 hcz17_5 hcz17_6 hcz17_7 hcz17_8 hfz17_0 hfz17_1 hfz17_2 hfz17_3 hfz17_4 hfz17_5 hfz17_6 hfz17_7 hfz17_8 => ?_)))
        go_meet
        case rel => exact ⟨_, (true), (by first | rfl | (simp; done) | (simp [*]; done)), H', ⟨by first | omega | exact Nat.le_refl _⟩, ⟨by (with_reducible repeat (first | apply Kd.V_alloc | apply Kd.V_drewN | apply Kd.V_drew)); exact Kd.V_mono HO0_6.out (fun _ hk => ⟨hk.1.1, hk.1.2⟩)⟩, ⟨by (with_reducible repeat (first | apply Kd.V_alloc | apply Kd.V_drewN | apply Kd.V_drew)); exact Kd.V_mono HO0_7.out (fun _ hk => ⟨hk.1.1, hk.1.2⟩)⟩, ⟨by (with_reducible repeat (first | refine blk_drewN ?_ _ | refine blk_drew ?_ | refine blk_alloc ?_ _)); exact BK566.out⟩, ⟨by repeat (first | (with_reducible first | exact HB.out | apply below_alloc | apply pw_below_drewN | apply below_drew1 | refine below_set ?_ GE566.out) | exact HB.out)⟩⟩
      · rw [if_neg c9] at H
        have c9b0 : (a0_0 == 0) = false := beq_eq_false_iff_ne.mpr c9
        have c9b1 : (a0_0 != 0) = true := bne_iff_ne.mpr c9
        (first | rw [c9b0] | (simp only [i64_w, i32_w]; rw [c9b0]) | skip)
        by_cases c18 : a1 < 1
        · rw [if_pos c18] at H
          have c18b0 : decide (a1 < 1) = true := decide_eq_true c18
          clear c18
          have H' := Aside0.mk H
          clear H
          have hq0 := True.intro
          repeat ((first | clear hq0 | go_quiet (fail)); try go_wp2_with (first | ((with_reducible refine gate_dst (N := 12) rfl ?_); refine blk_load_event ?lg (N := 12) ?ld (t := 29) (x := ?lxxz19) ?lo (g := gb566) ?lx (cs := _) BK566.out ?lD ?lt ?_; (case lg => rfl); (case ld => rfl); (case lo => rfl); (case lx => first | rfl | (go_simp; done) | (go_simp; rfl)); (case lD => exact ⟨_, Try.underlying29, rfl⟩); (case lt => kernel_rfl)) | ((with_reducible refine gate_dst (N := 13) rfl ?_); (try (refine gate_guard (by rfl) ?_; dsimp only)); refine Kd.N_lit k29 _ 29 ?hg (N' := 13) ?hd (xs := ([(⟨a0_0, (⟨a0_1, a0_2⟩ : S23), (⟨a0_3, a0_4⟩ : S25), a0_5, l0_6, l0_7, a0_8⟩ : S29)] : List (S29))) (inner := [.int .i64 a0_0, .int .i64 a0_1, .int .i64 a0_2, .int .i64 a0_3, .int .i64 a0_4, .int .i64 a0_5, .slice A0_6 l0_6.length c0_6, .slice A0_7 l0_7.length c0_7, .bool a0_8]) (ok := (fun k_ => ((P0_6_ k_ ∨ P0_7_ k_) ∨ w.heap.size ≤ k_) ∧ k_ ≠ gb566)) (okp := (fun k_ => ((P0_6_ k_ ∨ P0_7_ k_) ∨ w.heap.size ≤ k_) ∧ k_ ≠ gb566)) ?hr ?hp (fun _ hk => hk) ((show ∀ k_, w4.heap.size ≤ k_ → (fun k_ => ((P0_6_ k_ ∨ P0_7_ k_) ∨ w.heap.size ≤ k_) ∧ k_ ≠ gb566) k_ from fun k_ hk => ⟨(.inr (Nat.le_trans (below_size (by repeat (first | (with_reducible first | exact HB.out | apply below_alloc | apply pw_below_drewN | apply below_drew1 | refine below_set ?_ GE566.out) | exact HB.out))) hk)), Kd.freshB (g := gb566) (o := .cells #[.int .i64 a0_0, .int .i64 a0_1, .int .i64 a0_2, .int .i64 a0_3, .int .i64 a0_4, .int .i64 a0_5, .slice A0_6 l0_6.length c0_6, .slice A0_7 l0_7.length c0_7, .bool a0_8] 29 (0, 0)) (kb_ BK566.out) k_ hk⟩) _ (Nat.le_refl _)) (Below.refl _ _) (Nat.le_refl _) (by simp) ?_; (case hd => rfl); (case hg => rfl); (case hr => first | (go_simp; done) | (go_simp; rfl)); (case hp => exact (Reps.c9 (show Kd.FK k29 _ _ (⟨a0_0, (⟨a0_1, a0_2⟩ : S23), (⟨a0_3, a0_4⟩ : S25), a0_5, l0_6, l0_7, a0_8⟩ : S29) [.int .i64 a0_0, .int .i64 a0_1, .int .i64 a0_2, .int .i64 a0_3, .int .i64 a0_4, .int .i64 a0_5, .slice A0_6 l0_6.length c0_6, .slice A0_7 l0_7.length c0_7, .bool a0_8] from (k29_mkF _ _ (⟨a0_0, (⟨a0_1, a0_2⟩ : S23), (⟨a0_3, a0_4⟩ : S25), a0_5, l0_6, l0_7, a0_8⟩ : S29) (Kd.V_reads' (Kd.V_mono (ok' := (fun k_ => ((P0_6_ k_ ∨ P0_7_ k_) ∨ w.heap.size ≤ k_) ∧ k_ ≠ gb566)) (HO0_6.out) (fun k_ hk => ⟨hk.1, hk.2⟩))).2.1 (Kd.V_F (Kd.V_mono (ok' := (fun k_ => ((P0_6_ k_ ∨ P0_7_ k_) ∨ w.heap.size ≤ k_) ∧ k_ ≠ gb566)) (HO0_6.out) (fun k_ hk => ⟨hk.1, hk.2⟩))) (Kd.V_reads' (Kd.V_mono (ok' := (fun k_ => ((P0_6_ k_ ∨ P0_7_ k_) ∨ w.heap.size ≤ k_) ∧ k_ ≠ gb566)) (HO0_7.out) (fun k_ hk => ⟨hk.1, hk.2⟩))).2.1 (Kd.V_F (Kd.V_mono (ok' := (fun k_ => ((P0_6_ k_ ∨ P0_7_ k_) ∨ w.heap.size ≤ k_) ∧ k_ ≠ gb566)) (HO0_7.out) (fun k_ hk => ⟨hk.1, hk.2⟩))))) (Reps.none _ _))); intro v568 w20 ho21 hb hg_ hnew_; clear hg_ hnew_; (first | rw [← Ny567.out] at ho21 | (simp only [Int.reduceToNat] at ho21; rw [← Ny567.out] at ho21)); have n0_ := Aside0.mk (Kd.V_elder' (kv_ HO0_6.out) (Kd.N_base ho21) hb); have n1_ := Aside0.mk (Kd.V_elder' (kv_ HO0_7.out) (Kd.N_base ho21) hb); have n2_ := Aside0.mk (Kd.N_lower ho21 (below_size (by repeat (first | (with_reducible first | exact HB.out | apply below_alloc | apply pw_below_drewN | apply below_drew1 | refine below_set ?_ GE566.out) | exact HB.out)))); have n3_ := Aside0.mk (blk_below (kb_ BK566.out) hb); have n4_ := Aside0.mk (below_step (by repeat (first | (with_reducible first | exact HB.out | apply below_alloc | apply pw_below_drewN | apply below_drew1 | refine below_set ?_ GE566.out) | exact HB.out)) hb); clear HO0_6; clear HO0_7; clear BK566; clear HB; have HO0_6 := n0_; have HO0_7 := n1_; have HO569 := n2_; have BK566 := n3_; have HB := n4_; clear n0_ n1_ n2_ n3_ n4_; clear hb ho21; obtain ⟨Ao22, co22, eo22⟩ := Kd.N_slice HO569.out; subst eo22) | (go_at_call 8; (with_reducible refine (althinglaw05_Few.calls k _ _ y567 true _ ?side1 ?side2 A5.out).mono ?_); (case side1 => repeat (first | exact (Kd.N_reads' HO569.out).2.2 | (with_reducible refine Kd.C_alloc ?_ _) | (with_reducible refine Kd.C_drewN ?_ _) | (with_reducible refine Kd.C_drew ?_))); (case side2 => exact (Kd.N_reads' HO569.out).2.1); rintro e w23 ⟨rfl, hb⟩; have n0_ := Aside0.mk (Kd.V_below (kv_ HO0_6.out) hb); have n1_ := Aside0.mk (Kd.V_below (kv_ HO0_7.out) hb); have n2_ := Aside0.mk (Kd.N_below (kn_ HO569.out) hb); have n3_ := Aside0.mk (blk_below (kb_ BK566.out) hb); have n4_ := Aside0.mk (below_step (by repeat (first | (with_reducible first | exact HB.out | apply below_alloc | apply pw_below_drewN | apply below_drew1 | refine below_set ?_ GE566.out) | exact HB.out)) hb); clear HO0_6; clear HO0_7; clear HO569; clear BK566; clear HB; have HO0_6 := n0_; have HO0_7 := n1_; have HO569 := n2_; have BK566 := n3_; have HB := n4_; clear n0_ n1_ n2_ n3_ n4_; (try clear hb); (try clear hb2); (try clear hk); (try clear hi); refine blk9_ BK566.out fun hcz24_0 hcz24_1 hcz24_2 hcz24_3 hcz24_4 hcz24_5 hcz24_6 hcz24_7 hcz24_8 hfz24_0 hfz24_1 hfz24_2 hfz24_3 hfz24_4 hfz24_5 hfz24_6 hfz24_7 hfz24_8 => ?_) | (go_at_call 16; (with_reducible refine (althingref05_Right.calls k a0_0 a0_1 a0_2 a0_3 a0_4 a0_5 _ _ l0_6 _ _ l0_7 a0_8 true _ ?side1 ?side2 ?side3 ?side4 A7.out).mono ?_); (case side1 => repeat (first | exact (Kd.V_reads' HO0_6.out).2.2 | (with_reducible refine Kd.C_alloc ?_ _) | (with_reducible refine Kd.C_drewN ?_ _) | (with_reducible refine Kd.C_drew ?_))); (case side2 => exact (Kd.V_reads' HO0_6.out).2.1); (case side3 => repeat (first | exact (Kd.V_reads' HO0_7.out).2.2 | (with_reducible refine Kd.C_alloc ?_ _) | (with_reducible refine Kd.C_drewN ?_ _) | (with_reducible refine Kd.C_drew ?_))); (case side4 => exact (Kd.V_reads' HO0_7.out).2.1); rintro e w25 ⟨rfl, hb⟩; have n0_ := Aside0.mk (Kd.V_below (kv_ HO0_6.out) hb); have n1_ := Aside0.mk (Kd.V_below (kv_ HO0_7.out) hb); have n2_ := Aside0.mk (Kd.N_below (kn_ HO569.out) hb); have n3_ := Aside0.mk (blk_below (kb_ BK566.out) hb); have n4_ := Aside0.mk (below_step (by repeat (first | (with_reducible first | exact HB.out | apply below_alloc | apply pw_below_drewN | apply below_drew1 | refine below_set ?_ GE566.out) | exact HB.out)) hb); clear HO0_6; clear HO0_7; clear HO569; clear BK566; clear HB; have HO0_6 := n0_; have HO0_7 := n1_; have HO569 := n2_; have BK566 := n3_; have HB := n4_; clear n0_ n1_ n2_ n3_ n4_; (try clear hb); (try clear hb2); (try clear hk); (try clear hi); refine blk9_ BK566.out fun hcz26_0 hcz26_1 hcz26_2 hcz26_3 hcz26_4 hcz26_5 hcz26_6 hcz26_7 hcz26_8 hfz26_0 hfz26_1 hfz26_2 hfz26_3 hfz26_4 hfz26_5 hfz26_6 hfz26_7 hfz26_8 => ?_)))
          go_meet
          case rel => exact ⟨_, (true), (by first | rfl | (simp; done) | (simp [*]; done)), H', ⟨by first | omega | exact Nat.le_refl _⟩, ⟨by (with_reducible repeat (first | apply Kd.V_alloc | apply Kd.V_drewN | apply Kd.V_drew)); exact Kd.V_mono HO0_6.out (fun _ hk => ⟨hk.1.1, hk.1.2⟩)⟩, ⟨by (with_reducible repeat (first | apply Kd.V_alloc | apply Kd.V_drewN | apply Kd.V_drew)); exact Kd.V_mono HO0_7.out (fun _ hk => ⟨hk.1.1, hk.1.2⟩)⟩, ⟨by (with_reducible repeat (first | refine blk_drewN ?_ _ | refine blk_drew ?_ | refine blk_alloc ?_ _)); exact BK566.out⟩, ⟨by repeat (first | (with_reducible first | exact HB.out | apply below_alloc | apply pw_below_drewN | apply below_drew1 | refine below_set ?_ GE566.out) | exact HB.out)⟩⟩
        · rw [if_neg c18] at H
          have c18b0 : decide (a1 < 1) = false := decide_eq_false c18
          clear c18
          have H' := Aside0.mk H
          clear H
          have hq0 := True.intro
          repeat ((first | clear hq0 | go_quiet (fail)); try go_wp2_with (first | ((with_reducible refine gate_dst (N := 12) rfl ?_); refine blk_load_event ?lg (N := 12) ?ld (t := 29) (x := ?lxxz27) ?lo (g := gb566) ?lx (cs := _) BK566.out ?lD ?lt ?_; (case lg => rfl); (case ld => rfl); (case lo => rfl); (case lx => first | rfl | (go_simp; done) | (go_simp; rfl)); (case lD => exact ⟨_, Try.underlying29, rfl⟩); (case lt => kernel_rfl)) | ((with_reducible refine gate_dst (N := 13) rfl ?_); (try (refine gate_guard (by rfl) ?_; dsimp only)); refine Kd.N_lit k29 _ 29 ?hg (N' := 13) ?hd (xs := ([(⟨a0_0, (⟨a0_1, a0_2⟩ : S23), (⟨a0_3, a0_4⟩ : S25), a0_5, l0_6, l0_7, a0_8⟩ : S29)] : List (S29))) (inner := [.int .i64 a0_0, .int .i64 a0_1, .int .i64 a0_2, .int .i64 a0_3, .int .i64 a0_4, .int .i64 a0_5, .slice A0_6 l0_6.length c0_6, .slice A0_7 l0_7.length c0_7, .bool a0_8]) (ok := (fun k_ => ((P0_6_ k_ ∨ P0_7_ k_) ∨ w.heap.size ≤ k_) ∧ k_ ≠ gb566)) (okp := (fun k_ => ((P0_6_ k_ ∨ P0_7_ k_) ∨ w.heap.size ≤ k_) ∧ k_ ≠ gb566)) ?hr ?hp (fun _ hk => hk) ((show ∀ k_, w4.heap.size ≤ k_ → (fun k_ => ((P0_6_ k_ ∨ P0_7_ k_) ∨ w.heap.size ≤ k_) ∧ k_ ≠ gb566) k_ from fun k_ hk => ⟨(.inr (Nat.le_trans (below_size (by repeat (first | (with_reducible first | exact HB.out | apply below_alloc | apply pw_below_drewN | apply below_drew1 | refine below_set ?_ GE566.out) | exact HB.out))) hk)), Kd.freshB (g := gb566) (o := .cells #[.int .i64 a0_0, .int .i64 a0_1, .int .i64 a0_2, .int .i64 a0_3, .int .i64 a0_4, .int .i64 a0_5, .slice A0_6 l0_6.length c0_6, .slice A0_7 l0_7.length c0_7, .bool a0_8] 29 (0, 0)) (kb_ BK566.out) k_ hk⟩) _ (Nat.le_refl _)) (Below.refl _ _) (Nat.le_refl _) (by simp) ?_; (case hd => rfl); (case hg => rfl); (case hr => first | (go_simp; done) | (go_simp; rfl)); (case hp => exact (Reps.c9 (show Kd.FK k29 _ _ (⟨a0_0, (⟨a0_1, a0_2⟩ : S23), (⟨a0_3, a0_4⟩ : S25), a0_5, l0_6, l0_7, a0_8⟩ : S29) [.int .i64 a0_0, .int .i64 a0_1, .int .i64 a0_2, .int .i64 a0_3, .int .i64 a0_4, .int .i64 a0_5, .slice A0_6 l0_6.length c0_6, .slice A0_7 l0_7.length c0_7, .bool a0_8] from (k29_mkF _ _ (⟨a0_0, (⟨a0_1, a0_2⟩ : S23), (⟨a0_3, a0_4⟩ : S25), a0_5, l0_6, l0_7, a0_8⟩ : S29) (Kd.V_reads' (Kd.V_mono (ok' := (fun k_ => ((P0_6_ k_ ∨ P0_7_ k_) ∨ w.heap.size ≤ k_) ∧ k_ ≠ gb566)) (HO0_6.out) (fun k_ hk => ⟨hk.1, hk.2⟩))).2.1 (Kd.V_F (Kd.V_mono (ok' := (fun k_ => ((P0_6_ k_ ∨ P0_7_ k_) ∨ w.heap.size ≤ k_) ∧ k_ ≠ gb566)) (HO0_6.out) (fun k_ hk => ⟨hk.1, hk.2⟩))) (Kd.V_reads' (Kd.V_mono (ok' := (fun k_ => ((P0_6_ k_ ∨ P0_7_ k_) ∨ w.heap.size ≤ k_) ∧ k_ ≠ gb566)) (HO0_7.out) (fun k_ hk => ⟨hk.1, hk.2⟩))).2.1 (Kd.V_F (Kd.V_mono (ok' := (fun k_ => ((P0_6_ k_ ∨ P0_7_ k_) ∨ w.heap.size ≤ k_) ∧ k_ ≠ gb566)) (HO0_7.out) (fun k_ hk => ⟨hk.1, hk.2⟩))))) (Reps.none _ _))); intro v568 w28 ho29 hb hg_ hnew_; clear hg_ hnew_; (first | rw [← Ny567.out] at ho29 | (simp only [Int.reduceToNat] at ho29; rw [← Ny567.out] at ho29)); have n0_ := Aside0.mk (Kd.V_elder' (kv_ HO0_6.out) (Kd.N_base ho29) hb); have n1_ := Aside0.mk (Kd.V_elder' (kv_ HO0_7.out) (Kd.N_base ho29) hb); have n2_ := Aside0.mk (Kd.N_lower ho29 (below_size (by repeat (first | (with_reducible first | exact HB.out | apply below_alloc | apply pw_below_drewN | apply below_drew1 | refine below_set ?_ GE566.out) | exact HB.out)))); have n3_ := Aside0.mk (blk_below (kb_ BK566.out) hb); have n4_ := Aside0.mk (below_step (by repeat (first | (with_reducible first | exact HB.out | apply below_alloc | apply pw_below_drewN | apply below_drew1 | refine below_set ?_ GE566.out) | exact HB.out)) hb); clear HO0_6; clear HO0_7; clear BK566; clear HB; have HO0_6 := n0_; have HO0_7 := n1_; have HO569 := n2_; have BK566 := n3_; have HB := n4_; clear n0_ n1_ n2_ n3_ n4_; clear hb ho29; obtain ⟨Ao30, co30, eo30⟩ := Kd.N_slice HO569.out; subst eo30) | (go_at_call 8; (with_reducible refine (althinglaw05_Few.calls k _ _ y567 true _ ?side1 ?side2 A5.out).mono ?_); (case side1 => repeat (first | exact (Kd.N_reads' HO569.out).2.2 | (with_reducible refine Kd.C_alloc ?_ _) | (with_reducible refine Kd.C_drewN ?_ _) | (with_reducible refine Kd.C_drew ?_))); (case side2 => exact (Kd.N_reads' HO569.out).2.1); rintro e w31 ⟨rfl, hb⟩; have n0_ := Aside0.mk (Kd.V_below (kv_ HO0_6.out) hb); have n1_ := Aside0.mk (Kd.V_below (kv_ HO0_7.out) hb); have n2_ := Aside0.mk (Kd.N_below (kn_ HO569.out) hb); have n3_ := Aside0.mk (blk_below (kb_ BK566.out) hb); have n4_ := Aside0.mk (below_step (by repeat (first | (with_reducible first | exact HB.out | apply below_alloc | apply pw_below_drewN | apply below_drew1 | refine below_set ?_ GE566.out) | exact HB.out)) hb); clear HO0_6; clear HO0_7; clear HO569; clear BK566; clear HB; have HO0_6 := n0_; have HO0_7 := n1_; have HO569 := n2_; have BK566 := n3_; have HB := n4_; clear n0_ n1_ n2_ n3_ n4_; (try clear hb); (try clear hb2); (try clear hk); (try clear hi); refine blk9_ BK566.out fun hcz32_0 hcz32_1 hcz32_2 hcz32_3 hcz32_4 hcz32_5 hcz32_6 hcz32_7 hcz32_8 hfz32_0 hfz32_1 hfz32_2 hfz32_3 hfz32_4 hfz32_5 hfz32_6 hfz32_7 hfz32_8 => ?_) | (go_at_call 16; (with_reducible refine (althingref05_Right.calls k a0_0 a0_1 a0_2 a0_3 a0_4 a0_5 _ _ l0_6 _ _ l0_7 a0_8 true _ ?side1 ?side2 ?side3 ?side4 A7.out).mono ?_); (case side1 => repeat (first | exact (Kd.V_reads' HO0_6.out).2.2 | (with_reducible refine Kd.C_alloc ?_ _) | (with_reducible refine Kd.C_drewN ?_ _) | (with_reducible refine Kd.C_drew ?_))); (case side2 => exact (Kd.V_reads' HO0_6.out).2.1); (case side3 => repeat (first | exact (Kd.V_reads' HO0_7.out).2.2 | (with_reducible refine Kd.C_alloc ?_ _) | (with_reducible refine Kd.C_drewN ?_ _) | (with_reducible refine Kd.C_drew ?_))); (case side4 => exact (Kd.V_reads' HO0_7.out).2.1); rintro e w33 ⟨rfl, hb⟩; have n0_ := Aside0.mk (Kd.V_below (kv_ HO0_6.out) hb); have n1_ := Aside0.mk (Kd.V_below (kv_ HO0_7.out) hb); have n2_ := Aside0.mk (Kd.N_below (kn_ HO569.out) hb); have n3_ := Aside0.mk (blk_below (kb_ BK566.out) hb); have n4_ := Aside0.mk (below_step (by repeat (first | (with_reducible first | exact HB.out | apply below_alloc | apply pw_below_drewN | apply below_drew1 | refine below_set ?_ GE566.out) | exact HB.out)) hb); clear HO0_6; clear HO0_7; clear HO569; clear BK566; clear HB; have HO0_6 := n0_; have HO0_7 := n1_; have HO569 := n2_; have BK566 := n3_; have HB := n4_; clear n0_ n1_ n2_ n3_ n4_; (try clear hb); (try clear hb2); (try clear hk); (try clear hi); refine blk9_ BK566.out fun hcz34_0 hcz34_1 hcz34_2 hcz34_3 hcz34_4 hcz34_5 hcz34_6 hcz34_7 hcz34_8 hfz34_0 hfz34_1 hfz34_2 hfz34_3 hfz34_4 hfz34_5 hfz34_6 hfz34_7 hfz34_8 => ?_)))
          go_meet
          case rel => exact ⟨_, (decide (a1 > 4)), (by first | rfl | (simp; done) | (simp [*]; done)), H', ⟨by first | omega | exact Nat.le_refl _⟩, ⟨by (with_reducible repeat (first | apply Kd.V_alloc | apply Kd.V_drewN | apply Kd.V_drew)); exact Kd.V_mono HO0_6.out (fun _ hk => ⟨hk.1.1, hk.1.2⟩)⟩, ⟨by (with_reducible repeat (first | apply Kd.V_alloc | apply Kd.V_drewN | apply Kd.V_drew)); exact Kd.V_mono HO0_7.out (fun _ hk => ⟨hk.1.1, hk.1.2⟩)⟩, ⟨by (with_reducible repeat (first | refine blk_drewN ?_ _ | refine blk_drew ?_ | refine blk_alloc ?_ _)); exact BK566.out⟩, ⟨by repeat (first | (with_reducible first | exact HB.out | apply below_alloc | apply pw_below_drewN | apply below_drew1 | refine below_set ?_ GE566.out) | exact HB.out)⟩⟩
    · replace c8 := Bool.eq_false_iff.mpr c8
      subst c8
      rw [if_neg (show ¬ (false = true) by decide)] at H
      have H' := Aside0.mk H
      clear H
      have hq0 := True.intro
      repeat ((first | clear hq0 | go_quiet (fail)); try go_wp2_with (first | ((with_reducible refine gate_dst (N := 12) rfl ?_); refine blk_load_event ?lg (N := 12) ?ld (t := 29) (x := ?lxxz35) ?lo (g := gb566) ?lx (cs := _) BK566.out ?lD ?lt ?_; (case lg => rfl); (case ld => rfl); (case lo => rfl); (case lx => first | rfl | (go_simp; done) | (go_simp; rfl)); (case lD => exact ⟨_, Try.underlying29, rfl⟩); (case lt => kernel_rfl)) | ((with_reducible refine gate_dst (N := 13) rfl ?_); (try (refine gate_guard (by rfl) ?_; dsimp only)); refine Kd.N_lit k29 _ 29 ?hg (N' := 13) ?hd (xs := ([(⟨a0_0, (⟨a0_1, a0_2⟩ : S23), (⟨a0_3, a0_4⟩ : S25), a0_5, l0_6, l0_7, a0_8⟩ : S29)] : List (S29))) (inner := [.int .i64 a0_0, .int .i64 a0_1, .int .i64 a0_2, .int .i64 a0_3, .int .i64 a0_4, .int .i64 a0_5, .slice A0_6 l0_6.length c0_6, .slice A0_7 l0_7.length c0_7, .bool a0_8]) (ok := (fun k_ => ((P0_6_ k_ ∨ P0_7_ k_) ∨ w.heap.size ≤ k_) ∧ k_ ≠ gb566)) (okp := (fun k_ => ((P0_6_ k_ ∨ P0_7_ k_) ∨ w.heap.size ≤ k_) ∧ k_ ≠ gb566)) ?hr ?hp (fun _ hk => hk) ((show ∀ k_, w4.heap.size ≤ k_ → (fun k_ => ((P0_6_ k_ ∨ P0_7_ k_) ∨ w.heap.size ≤ k_) ∧ k_ ≠ gb566) k_ from fun k_ hk => ⟨(.inr (Nat.le_trans (below_size (by repeat (first | (with_reducible first | exact HB.out | apply below_alloc | apply pw_below_drewN | apply below_drew1 | refine below_set ?_ GE566.out) | exact HB.out))) hk)), Kd.freshB (g := gb566) (o := .cells #[.int .i64 a0_0, .int .i64 a0_1, .int .i64 a0_2, .int .i64 a0_3, .int .i64 a0_4, .int .i64 a0_5, .slice A0_6 l0_6.length c0_6, .slice A0_7 l0_7.length c0_7, .bool a0_8] 29 (0, 0)) (kb_ BK566.out) k_ hk⟩) _ (Nat.le_refl _)) (Below.refl _ _) (Nat.le_refl _) (by simp) ?_; (case hd => rfl); (case hg => rfl); (case hr => first | (go_simp; done) | (go_simp; rfl)); (case hp => exact (Reps.c9 (show Kd.FK k29 _ _ (⟨a0_0, (⟨a0_1, a0_2⟩ : S23), (⟨a0_3, a0_4⟩ : S25), a0_5, l0_6, l0_7, a0_8⟩ : S29) [.int .i64 a0_0, .int .i64 a0_1, .int .i64 a0_2, .int .i64 a0_3, .int .i64 a0_4, .int .i64 a0_5, .slice A0_6 l0_6.length c0_6, .slice A0_7 l0_7.length c0_7, .bool a0_8] from (k29_mkF _ _ (⟨a0_0, (⟨a0_1, a0_2⟩ : S23), (⟨a0_3, a0_4⟩ : S25), a0_5, l0_6, l0_7, a0_8⟩ : S29) (Kd.V_reads' (Kd.V_mono (ok' := (fun k_ => ((P0_6_ k_ ∨ P0_7_ k_) ∨ w.heap.size ≤ k_) ∧ k_ ≠ gb566)) (HO0_6.out) (fun k_ hk => ⟨hk.1, hk.2⟩))).2.1 (Kd.V_F (Kd.V_mono (ok' := (fun k_ => ((P0_6_ k_ ∨ P0_7_ k_) ∨ w.heap.size ≤ k_) ∧ k_ ≠ gb566)) (HO0_6.out) (fun k_ hk => ⟨hk.1, hk.2⟩))) (Kd.V_reads' (Kd.V_mono (ok' := (fun k_ => ((P0_6_ k_ ∨ P0_7_ k_) ∨ w.heap.size ≤ k_) ∧ k_ ≠ gb566)) (HO0_7.out) (fun k_ hk => ⟨hk.1, hk.2⟩))).2.1 (Kd.V_F (Kd.V_mono (ok' := (fun k_ => ((P0_6_ k_ ∨ P0_7_ k_) ∨ w.heap.size ≤ k_) ∧ k_ ≠ gb566)) (HO0_7.out) (fun k_ hk => ⟨hk.1, hk.2⟩))))) (Reps.none _ _))); intro v568 w36 ho37 hb hg_ hnew_; clear hg_ hnew_; (first | rw [← Ny567.out] at ho37 | (simp only [Int.reduceToNat] at ho37; rw [← Ny567.out] at ho37)); have n0_ := Aside0.mk (Kd.V_elder' (kv_ HO0_6.out) (Kd.N_base ho37) hb); have n1_ := Aside0.mk (Kd.V_elder' (kv_ HO0_7.out) (Kd.N_base ho37) hb); have n2_ := Aside0.mk (Kd.N_lower ho37 (below_size (by repeat (first | (with_reducible first | exact HB.out | apply below_alloc | apply pw_below_drewN | apply below_drew1 | refine below_set ?_ GE566.out) | exact HB.out)))); have n3_ := Aside0.mk (blk_below (kb_ BK566.out) hb); have n4_ := Aside0.mk (below_step (by repeat (first | (with_reducible first | exact HB.out | apply below_alloc | apply pw_below_drewN | apply below_drew1 | refine below_set ?_ GE566.out) | exact HB.out)) hb); clear HO0_6; clear HO0_7; clear BK566; clear HB; have HO0_6 := n0_; have HO0_7 := n1_; have HO569 := n2_; have BK566 := n3_; have HB := n4_; clear n0_ n1_ n2_ n3_ n4_; clear hb ho37; obtain ⟨Ao38, co38, eo38⟩ := Kd.N_slice HO569.out; subst eo38) | (go_at_call 8; (with_reducible refine (althinglaw05_Few.calls k _ _ y567 true _ ?side1 ?side2 A5.out).mono ?_); (case side1 => repeat (first | exact (Kd.N_reads' HO569.out).2.2 | (with_reducible refine Kd.C_alloc ?_ _) | (with_reducible refine Kd.C_drewN ?_ _) | (with_reducible refine Kd.C_drew ?_))); (case side2 => exact (Kd.N_reads' HO569.out).2.1); rintro e w39 ⟨rfl, hb⟩; have n0_ := Aside0.mk (Kd.V_below (kv_ HO0_6.out) hb); have n1_ := Aside0.mk (Kd.V_below (kv_ HO0_7.out) hb); have n2_ := Aside0.mk (Kd.N_below (kn_ HO569.out) hb); have n3_ := Aside0.mk (blk_below (kb_ BK566.out) hb); have n4_ := Aside0.mk (below_step (by repeat (first | (with_reducible first | exact HB.out | apply below_alloc | apply pw_below_drewN | apply below_drew1 | refine below_set ?_ GE566.out) | exact HB.out)) hb); clear HO0_6; clear HO0_7; clear HO569; clear BK566; clear HB; have HO0_6 := n0_; have HO0_7 := n1_; have HO569 := n2_; have BK566 := n3_; have HB := n4_; clear n0_ n1_ n2_ n3_ n4_; (try clear hb); (try clear hb2); (try clear hk); (try clear hi); refine blk9_ BK566.out fun hcz40_0 hcz40_1 hcz40_2 hcz40_3 hcz40_4 hcz40_5 hcz40_6 hcz40_7 hcz40_8 hfz40_0 hfz40_1 hfz40_2 hfz40_3 hfz40_4 hfz40_5 hfz40_6 hfz40_7 hfz40_8 => ?_) | (go_at_call 16; (with_reducible refine (althingref05_Right.calls k a0_0 a0_1 a0_2 a0_3 a0_4 a0_5 _ _ l0_6 _ _ l0_7 a0_8 false _ ?side1 ?side2 ?side3 ?side4 A7.out).mono ?_); (case side1 => repeat (first | exact (Kd.V_reads' HO0_6.out).2.2 | (with_reducible refine Kd.C_alloc ?_ _) | (with_reducible refine Kd.C_drewN ?_ _) | (with_reducible refine Kd.C_drew ?_))); (case side2 => exact (Kd.V_reads' HO0_6.out).2.1); (case side3 => repeat (first | exact (Kd.V_reads' HO0_7.out).2.2 | (with_reducible refine Kd.C_alloc ?_ _) | (with_reducible refine Kd.C_drewN ?_ _) | (with_reducible refine Kd.C_drew ?_))); (case side4 => exact (Kd.V_reads' HO0_7.out).2.1); rintro e w41 ⟨rfl, hb⟩; have n0_ := Aside0.mk (Kd.V_below (kv_ HO0_6.out) hb); have n1_ := Aside0.mk (Kd.V_below (kv_ HO0_7.out) hb); have n2_ := Aside0.mk (Kd.N_below (kn_ HO569.out) hb); have n3_ := Aside0.mk (blk_below (kb_ BK566.out) hb); have n4_ := Aside0.mk (below_step (by repeat (first | (with_reducible first | exact HB.out | apply below_alloc | apply pw_below_drewN | apply below_drew1 | refine below_set ?_ GE566.out) | exact HB.out)) hb); clear HO0_6; clear HO0_7; clear HO569; clear BK566; clear HB; have HO0_6 := n0_; have HO0_7 := n1_; have HO569 := n2_; have BK566 := n3_; have HB := n4_; clear n0_ n1_ n2_ n3_ n4_; (try clear hb); (try clear hb2); (try clear hk); (try clear hi))))
      go_meet
      case rel => exact ⟨_, (true), (by first | rfl | (simp; done) | (simp [*]; done)), H', ⟨by first | omega | exact Nat.le_refl _⟩, ⟨by (with_reducible repeat (first | apply Kd.V_alloc | apply Kd.V_drewN | apply Kd.V_drew)); exact Kd.V_mono HO0_6.out (fun _ hk => ⟨hk.1.1, hk.1.2⟩)⟩, ⟨by (with_reducible repeat (first | apply Kd.V_alloc | apply Kd.V_drewN | apply Kd.V_drew)); exact Kd.V_mono HO0_7.out (fun _ hk => ⟨hk.1.1, hk.1.2⟩)⟩, ⟨by (with_reducible repeat (first | refine blk_drewN ?_ _ | refine blk_drew ?_ | refine blk_alloc ?_ _)); exact BK566.out⟩, ⟨by repeat (first | (with_reducible first | exact HB.out | apply below_alloc | apply pw_below_drewN | apply below_drew1 | refine below_set ?_ GE566.out) | exact HB.out)⟩⟩
  · replace c6 := Bool.eq_false_iff.mpr c6
    subst c6
    rw [if_neg (show ¬ (false = true) by decide)] at H
    have H' := Aside0.mk H
    clear H
    have hq0 := True.intro
    repeat ((first | clear hq0 | go_quiet (fail)); try go_wp2_with (first | ((with_reducible refine gate_dst (N := 12) rfl ?_); refine blk_load_event ?lg (N := 12) ?ld (t := 29) (x := ?lxxz42) ?lo (g := gb566) ?lx (cs := _) BK566.out ?lD ?lt ?_; (case lg => rfl); (case ld => rfl); (case lo => rfl); (case lx => first | rfl | (go_simp; done) | (go_simp; rfl)); (case lD => exact ⟨_, Try.underlying29, rfl⟩); (case lt => kernel_rfl)) | ((with_reducible refine gate_dst (N := 13) rfl ?_); (try (refine gate_guard (by rfl) ?_; dsimp only)); refine Kd.N_lit k29 _ 29 ?hg (N' := 13) ?hd (xs := ([(⟨a0_0, (⟨a0_1, a0_2⟩ : S23), (⟨a0_3, a0_4⟩ : S25), a0_5, l0_6, l0_7, a0_8⟩ : S29)] : List (S29))) (inner := [.int .i64 a0_0, .int .i64 a0_1, .int .i64 a0_2, .int .i64 a0_3, .int .i64 a0_4, .int .i64 a0_5, .slice A0_6 l0_6.length c0_6, .slice A0_7 l0_7.length c0_7, .bool a0_8]) (ok := (fun k_ => ((P0_6_ k_ ∨ P0_7_ k_) ∨ w.heap.size ≤ k_) ∧ k_ ≠ gb566)) (okp := (fun k_ => ((P0_6_ k_ ∨ P0_7_ k_) ∨ w.heap.size ≤ k_) ∧ k_ ≠ gb566)) ?hr ?hp (fun _ hk => hk) ((show ∀ k_, w4.heap.size ≤ k_ → (fun k_ => ((P0_6_ k_ ∨ P0_7_ k_) ∨ w.heap.size ≤ k_) ∧ k_ ≠ gb566) k_ from fun k_ hk => ⟨(.inr (Nat.le_trans (below_size (by repeat (first | (with_reducible first | exact HB.out | apply below_alloc | apply pw_below_drewN | apply below_drew1 | refine below_set ?_ GE566.out) | exact HB.out))) hk)), Kd.freshB (g := gb566) (o := .cells #[.int .i64 a0_0, .int .i64 a0_1, .int .i64 a0_2, .int .i64 a0_3, .int .i64 a0_4, .int .i64 a0_5, .slice A0_6 l0_6.length c0_6, .slice A0_7 l0_7.length c0_7, .bool a0_8] 29 (0, 0)) (kb_ BK566.out) k_ hk⟩) _ (Nat.le_refl _)) (Below.refl _ _) (Nat.le_refl _) (by simp) ?_; (case hd => rfl); (case hg => rfl); (case hr => first | (go_simp; done) | (go_simp; rfl)); (case hp => exact (Reps.c9 (show Kd.FK k29 _ _ (⟨a0_0, (⟨a0_1, a0_2⟩ : S23), (⟨a0_3, a0_4⟩ : S25), a0_5, l0_6, l0_7, a0_8⟩ : S29) [.int .i64 a0_0, .int .i64 a0_1, .int .i64 a0_2, .int .i64 a0_3, .int .i64 a0_4, .int .i64 a0_5, .slice A0_6 l0_6.length c0_6, .slice A0_7 l0_7.length c0_7, .bool a0_8] from (k29_mkF _ _ (⟨a0_0, (⟨a0_1, a0_2⟩ : S23), (⟨a0_3, a0_4⟩ : S25), a0_5, l0_6, l0_7, a0_8⟩ : S29) (Kd.V_reads' (Kd.V_mono (ok' := (fun k_ => ((P0_6_ k_ ∨ P0_7_ k_) ∨ w.heap.size ≤ k_) ∧ k_ ≠ gb566)) (HO0_6.out) (fun k_ hk => ⟨hk.1, hk.2⟩))).2.1 (Kd.V_F (Kd.V_mono (ok' := (fun k_ => ((P0_6_ k_ ∨ P0_7_ k_) ∨ w.heap.size ≤ k_) ∧ k_ ≠ gb566)) (HO0_6.out) (fun k_ hk => ⟨hk.1, hk.2⟩))) (Kd.V_reads' (Kd.V_mono (ok' := (fun k_ => ((P0_6_ k_ ∨ P0_7_ k_) ∨ w.heap.size ≤ k_) ∧ k_ ≠ gb566)) (HO0_7.out) (fun k_ hk => ⟨hk.1, hk.2⟩))).2.1 (Kd.V_F (Kd.V_mono (ok' := (fun k_ => ((P0_6_ k_ ∨ P0_7_ k_) ∨ w.heap.size ≤ k_) ∧ k_ ≠ gb566)) (HO0_7.out) (fun k_ hk => ⟨hk.1, hk.2⟩))))) (Reps.none _ _))); intro v568 w43 ho44 hb hg_ hnew_; clear hg_ hnew_; (first | rw [← Ny567.out] at ho44 | (simp only [Int.reduceToNat] at ho44; rw [← Ny567.out] at ho44)); have n0_ := Aside0.mk (Kd.V_elder' (kv_ HO0_6.out) (Kd.N_base ho44) hb); have n1_ := Aside0.mk (Kd.V_elder' (kv_ HO0_7.out) (Kd.N_base ho44) hb); have n2_ := Aside0.mk (Kd.N_lower ho44 (below_size (by repeat (first | (with_reducible first | exact HB.out | apply below_alloc | apply pw_below_drewN | apply below_drew1 | refine below_set ?_ GE566.out) | exact HB.out)))); have n3_ := Aside0.mk (blk_below (kb_ BK566.out) hb); have n4_ := Aside0.mk (below_step (by repeat (first | (with_reducible first | exact HB.out | apply below_alloc | apply pw_below_drewN | apply below_drew1 | refine below_set ?_ GE566.out) | exact HB.out)) hb); clear HO0_6; clear HO0_7; clear BK566; clear HB; have HO0_6 := n0_; have HO0_7 := n1_; have HO569 := n2_; have BK566 := n3_; have HB := n4_; clear n0_ n1_ n2_ n3_ n4_; clear hb ho44; obtain ⟨Ao45, co45, eo45⟩ := Kd.N_slice HO569.out; subst eo45) | (go_at_call 8; (with_reducible refine (althinglaw05_Few.calls k _ _ y567 false _ ?side1 ?side2 A5.out).mono ?_); (case side1 => repeat (first | exact (Kd.N_reads' HO569.out).2.2 | (with_reducible refine Kd.C_alloc ?_ _) | (with_reducible refine Kd.C_drewN ?_ _) | (with_reducible refine Kd.C_drew ?_))); (case side2 => exact (Kd.N_reads' HO569.out).2.1); rintro e w46 ⟨rfl, hb⟩; have n0_ := Aside0.mk (Kd.V_below (kv_ HO0_6.out) hb); have n1_ := Aside0.mk (Kd.V_below (kv_ HO0_7.out) hb); have n2_ := Aside0.mk (Kd.N_below (kn_ HO569.out) hb); have n3_ := Aside0.mk (blk_below (kb_ BK566.out) hb); have n4_ := Aside0.mk (below_step (by repeat (first | (with_reducible first | exact HB.out | apply below_alloc | apply pw_below_drewN | apply below_drew1 | refine below_set ?_ GE566.out) | exact HB.out)) hb); clear HO0_6; clear HO0_7; clear HO569; clear BK566; clear HB; have HO0_6 := n0_; have HO0_7 := n1_; have HO569 := n2_; have BK566 := n3_; have HB := n4_; clear n0_ n1_ n2_ n3_ n4_; (try clear hb); (try clear hb2); (try clear hk); (try clear hi))))
    go_meet
    case rel => exact ⟨_, (true), (by first | rfl | (simp; done) | (simp [*]; done)), H', ⟨by first | omega | exact Nat.le_refl _⟩, ⟨by (with_reducible repeat (first | apply Kd.V_alloc | apply Kd.V_drewN | apply Kd.V_drew)); exact Kd.V_mono HO0_6.out (fun _ hk => ⟨hk.1.1, hk.1.2⟩)⟩, ⟨by (with_reducible repeat (first | apply Kd.V_alloc | apply Kd.V_drewN | apply Kd.V_drew)); exact Kd.V_mono HO0_7.out (fun _ hk => ⟨hk.1.1, hk.1.2⟩)⟩, ⟨by (with_reducible repeat (first | refine blk_drewN ?_ _ | refine blk_drew ?_ | refine blk_alloc ?_ _)); exact BK566.out⟩, ⟨by repeat (first | (with_reducible first | exact HB.out | apply below_alloc | apply pw_below_drewN | apply below_drew1 | refine below_set ?_ GE566.out) | exact HB.out)⟩⟩
 case rest =>
  clear HC3
  try clear c1
  try clear p2
  try clear c6
  try clear c8
  try clear c9
  try clear c9b0
  try clear c9b1
  try clear c18
  try clear c18b0
  try clear hcz15_0 hcz15_1 hcz15_2 hcz15_3 hcz15_4 hcz15_5 hcz15_6 hcz15_7 hcz15_8
  try clear hcz17_0 hcz17_1 hcz17_2 hcz17_3 hcz17_4 hcz17_5 hcz17_6 hcz17_7 hcz17_8
  try clear hcz24_0 hcz24_1 hcz24_2 hcz24_3 hcz24_4 hcz24_5 hcz24_6 hcz24_7 hcz24_8
  try clear hcz26_0 hcz26_1 hcz26_2 hcz26_3 hcz26_4 hcz26_5 hcz26_6 hcz26_7 hcz26_8
  try clear hcz32_0 hcz32_1 hcz32_2 hcz32_3 hcz32_4 hcz32_5 hcz32_6 hcz32_7 hcz32_8
  try clear hcz34_0 hcz34_1 hcz34_2 hcz34_3 hcz34_4 hcz34_5 hcz34_6 hcz34_7 hcz34_8
  try clear hcz40_0 hcz40_1 hcz40_2 hcz40_3 hcz40_4 hcz40_5 hcz40_6 hcz40_7 hcz40_8
  try clear hfz15_0 hfz15_1 hfz15_2 hfz15_3 hfz15_4 hfz15_5 hfz15_6 hfz15_7 hfz15_8
  try clear hfz17_0 hfz17_1 hfz17_2 hfz17_3 hfz17_4 hfz17_5 hfz17_6 hfz17_7 hfz17_8
  try clear hfz24_0 hfz24_1 hfz24_2 hfz24_3 hfz24_4 hfz24_5 hfz24_6 hfz24_7 hfz24_8
  try clear hfz26_0 hfz26_1 hfz26_2 hfz26_3 hfz26_4 hfz26_5 hfz26_6 hfz26_7 hfz26_8
  try clear hfz32_0 hfz32_1 hfz32_2 hfz32_3 hfz32_4 hfz32_5 hfz32_6 hfz32_7 hfz32_8
  try clear hfz34_0 hfz34_1 hfz34_2 hfz34_3 hfz34_4 hfz34_5 hfz34_6 hfz34_7 hfz34_8
  try clear hfz40_0 hfz40_1 hfz40_2 hfz40_3 hfz40_4 hfz40_5 hfz40_6 hfz40_7 hfz40_8
  obtain ⟨kq, x33_2, rfl, HA, HJ2, HO_567006, HO_567007, BK566, HB⟩ := hcut
  cases kq with
  | zero => exact absurd HA.out (by simp [althinglaw05_CommandWhole.j0])
  | succ kj2 =>
   have H := HA.out
   clear HA
   simp only [althinglaw05_CommandWhole.j0] at H
   by_cases c47 : x33_2 = true
   · subst c47
     rw [if_pos rfl] at H
     obtain ⟨t572, A48, H⟩ := bs_ H
     obtain rfl := Option.some.inj H
     have hq0 := True.intro
     repeat ((first | clear hq0 | go_quiet (fail)); try go_wp2_with (first | (go_at_call 9; (with_reducible refine (althinglaw05_awake.calls kj2  t572 _ A48.out).mono ?_); rintro e w49 ⟨rfl, hb⟩; have n0_ := Aside0.mk (Kd.V_below (kv_ HO_567006.out) hb); have n1_ := Aside0.mk (Kd.V_below (kv_ HO_567007.out) hb); have n2_ := Aside0.mk (blk_below (kb_ BK566.out) hb); have n3_ := Aside0.mk (below_step (by repeat (first | (with_reducible first | exact HB.out | apply below_alloc | apply pw_below_drewN | apply below_drew1 | refine below_set ?_ GE566.out) | exact HB.out)) hb); clear HO_567006; clear HO_567007; clear BK566; clear HB; have HO_567006 := n0_; have HO_567007 := n1_; have BK566 := n2_; have HB := n3_; clear n0_ n1_ n2_ n3_; (try clear hb); (try clear hb2); (try clear hk); (try clear hi))))
     go_ret
     exact ⟨by first | rfl | (simp [errW_none, errW_some] <;> rfl) | (simp [*, errW_none, errW_some] <;> rfl), by repeat (first | (with_reducible first | exact HB.out | apply below_alloc | apply pw_below_drewN | apply below_drew1 | refine below_set ?_ GE566.out) | exact HB.out)⟩
   · replace c47 := Bool.eq_false_iff.mpr c47
     subst c47
     rw [if_neg (show ¬ (false = true) by decide)] at H
     have H' := Aside0.mk H
     clear H
     go_wp2
     repeat (go_quiet (fail); try go_wp2)
     go_loopg [5, 6, 7, 36] kj2 (fun kq v5 v6 v7 v36 w' => ∃ (x5_2 : Int) (x6_2 : Int) (x7_2 : List ByteArray) (x36_2 : Int), v5 = .int .i64 x5_2 ∧ v6 = .int .i64 x6_2 ∧ v36 = .int .i64 x36_2 ∧ Aside0 (althinglaw05_CommandWhole.l0 kq a1 x5_2 x6_2 x7_2 a1 x36_2 a0_0 a0_1 a0_2 a0_3 a0_4 a0_5 l0_6 l0_7 a0_8 = some r) ∧ Aside0 (kq ≤ kj2) ∧ Aside0 (Kd.R Kd.string 9 w' w.heap.size (fun k_ => (w.heap.size ≤ k_)) v7 x7_2) ∧ Aside0 (Kd.V k38 38 w' w.heap.size (fun k_ => ((P0_6_ k_ ∨ P0_7_ k_) ∨ w.heap.size ≤ k_) ∧ some k_ ≠ (v7 : Value).ownBlock ∧ k_ ≠ gb566) (.slice A0_6 l0_6.length c0_6) l0_6) ∧ Aside0 (Kd.V k40 40 w' w.heap.size (fun k_ => ((P0_6_ k_ ∨ P0_7_ k_) ∨ w.heap.size ≤ k_) ∧ some k_ ≠ (v7 : Value).ownBlock ∧ k_ ≠ gb566) (.slice A0_7 l0_7.length c0_7) l0_7) ∧ Aside0 (w'.heap[gb566]? = some (.cells #[.int .i64 a0_0, .int .i64 a0_1, .int .i64 a0_2, .int .i64 a0_3, .int .i64 a0_4, .int .i64 a0_5, (.slice A0_6 l0_6.length c0_6), (.slice A0_7 l0_7.length c0_7), .bool a0_8] 29 (0, 0))) ∧ Aside0 (Below w.heap.size w w'))
     case atStart => exact ⟨(0), (0), (([] : List ByteArray)), (0), (by first | rfl | (simp; done) | (simp [*]; done)), (by first | rfl | (simp; done) | (simp [*]; done)), (by first | rfl | (simp; done) | (simp [*]; done)), H', ⟨Nat.le_refl _⟩, ⟨by first | exact Kd.R_nil _ _ _ _ _ | exact Kd.N_nil _ _ _ _ _ | exact Kd.V_nil _ _ _ _ _ | exact Kd.Q_nil _ _ _ _ _ | exact Kd.S_nil _ _ _ _ _⟩, ⟨by (with_reducible repeat (first | apply Kd.V_alloc | apply Kd.V_drewN | apply Kd.V_drew)); exact Kd.V_mono HO_567006.out (fun _ hk => ⟨hk.1, ⟨(by simp [Value.ownBlock]), hk.2⟩⟩)⟩, ⟨by (with_reducible repeat (first | apply Kd.V_alloc | apply Kd.V_drewN | apply Kd.V_drew)); exact Kd.V_mono HO_567007.out (fun _ hk => ⟨hk.1, ⟨(by simp [Value.ownBlock]), hk.2⟩⟩)⟩, ⟨by (with_reducible repeat (first | refine blk_drewN ?_ _ | refine blk_drew ?_ | refine blk_alloc ?_ _)); exact BK566.out⟩, ⟨by repeat (first | (with_reducible first | exact HB.out | apply below_alloc | apply pw_below_drewN | apply below_drew1 | refine below_set ?_ GE566.out) | exact HB.out)⟩⟩
     case round =>
      clear H'
      try clear c1
      try clear p2
      try clear c4
      try clear c6
      try clear c8
      try clear c9
      try clear c9b0
      try clear c9b1
      try clear c18
      try clear c18b0
      try clear c47
      try clear hcz15_0 hcz15_1 hcz15_2 hcz15_3 hcz15_4 hcz15_5 hcz15_6 hcz15_7 hcz15_8
      try clear hcz17_0 hcz17_1 hcz17_2 hcz17_3 hcz17_4 hcz17_5 hcz17_6 hcz17_7 hcz17_8
      try clear hcz24_0 hcz24_1 hcz24_2 hcz24_3 hcz24_4 hcz24_5 hcz24_6 hcz24_7 hcz24_8
      try clear hcz26_0 hcz26_1 hcz26_2 hcz26_3 hcz26_4 hcz26_5 hcz26_6 hcz26_7 hcz26_8
      try clear hcz32_0 hcz32_1 hcz32_2 hcz32_3 hcz32_4 hcz32_5 hcz32_6 hcz32_7 hcz32_8
      try clear hcz34_0 hcz34_1 hcz34_2 hcz34_3 hcz34_4 hcz34_5 hcz34_6 hcz34_7 hcz34_8
      try clear hcz40_0 hcz40_1 hcz40_2 hcz40_3 hcz40_4 hcz40_5 hcz40_6 hcz40_7 hcz40_8
      try clear hfz15_0 hfz15_1 hfz15_2 hfz15_3 hfz15_4 hfz15_5 hfz15_6 hfz15_7 hfz15_8
      try clear hfz17_0 hfz17_1 hfz17_2 hfz17_3 hfz17_4 hfz17_5 hfz17_6 hfz17_7 hfz17_8
      try clear hfz24_0 hfz24_1 hfz24_2 hfz24_3 hfz24_4 hfz24_5 hfz24_6 hfz24_7 hfz24_8
      try clear hfz26_0 hfz26_1 hfz26_2 hfz26_3 hfz26_4 hfz26_5 hfz26_6 hfz26_7 hfz26_8
      try clear hfz32_0 hfz32_1 hfz32_2 hfz32_3 hfz32_4 hfz32_5 hfz32_6 hfz32_7 hfz32_8
      try clear hfz34_0 hfz34_1 hfz34_2 hfz34_3 hfz34_4 hfz34_5 hfz34_6 hfz34_7 hfz34_8
      try clear hfz40_0 hfz40_1 hfz40_2 hfz40_3 hfz40_4 hfz40_5 hfz40_6 hfz40_7 hfz40_8
      try clear p2
      (try clear BK566)
      obtain ⟨x5_2, x6_2, x7_2, x36_2, rfl, rfl, rfl, HA, HK2, HO_7, HO_567006, HO_567007, BK566, HB⟩ := hrel
      cases gk with
      | zero => exact absurd HA.out (by simp [althinglaw05_CommandWhole.l0])
      | succ k2 =>
       have H := HA.out
       clear HA
       simp only [althinglaw05_CommandWhole.l0] at H
       by_cases c50 : x36_2 < a1
       · rw [if_pos c50] at H
         have c50b0 : decide (x36_2 < a1) = true := decide_eq_true c50
         clear c50
         replace H := Option.bind_eq_some_iff.mp H
         obtain ⟨⟨t578, t579, t580, t581, t582, t583, t584, t587, t590, t591⟩, A510, H⟩ := H
         replace H : ((althingref05_Keys.f k2 a0_0 a0_1 a0_2 a0_3 a0_4 a0_5 l0_6 l0_7 a0_8).bind fun t593 => ((keys_Of.f k2 t593 x36_2 a1).bind fun t596 => (if ((t591 == 10) != ((t596.length : Int) == 0)) = true then (none) else (if t591 = 0 then ((althingref05_Right.f k2 t578 t579 t580 t581 t582 t583 t584 t587 t590).bind fun t599 => (if t599 = true then ((althingref05_Keys.f k2 t578 t579 t580 t581 t582 t583 t584 t587 t590).bind fun t600 => ((althinglaw05_same.f k2 t600 t596).bind fun t603 => (if t603 = true then ((althingref04_Join.f k2 x7_2 t596).bind fun t604 => (althinglaw05_CommandWhole.l0 k2 a1 (wrap64 (x5_2 + (t584.length : Int))) (wrap64 (x6_2 + (t587.length : Int))) t604 a1 (wrap64 (x36_2 + 1)) a0_0 a0_1 a0_2 a0_3 a0_4 a0_5 l0_6 l0_7 a0_8)) else (none)))) else (none))) else ((althingref04_Join.f k2 x7_2 t596).bind fun t607 => (althinglaw05_CommandWhole.l0 k2 a1 (wrap64 (x5_2 + (t584.length : Int))) (wrap64 (x6_2 + (t587.length : Int))) t607 a1 (wrap64 (x36_2 + 1)) a0_0 a0_1 a0_2 a0_3 a0_4 a0_5 l0_6 l0_7 a0_8)))))) = some r := H
         have A51 := Aside0.mk A510
         clear A510
         obtain ⟨t593, A52, H⟩ := bs_ H
         obtain ⟨t596, A53, H⟩ := bs_ H
         by_cases c54 : ((t591 == 10) != ((t596.length : Int) == 0)) = true
         · rw [if_pos c54] at H
           exact absurd H (by simp)
         · rw [if_neg c54] at H
           have c54b0 : ((t591 == 10) != ((t596.length : Int) == 0)) = false := by simpa using c54
           (try (have c54b1 : decide ((t591 == 10) = ((t596.length : Int) == 0)) = true := by simpa using c54))
           (try (have c54b2 : ((t591 == 10) == ((t596.length : Int) == 0)) = true := by simpa using c54))
           clear c54
           by_cases c55 : t591 = 0
           · rw [if_pos c55] at H
             have c55b0 : (t591 == 0) = true := beq_iff_eq.mpr c55
             have c55b1 : (t591 != 0) = false := bne_eq_false_iff_eq.mpr c55
             clear c55
             obtain ⟨t599, A56, H⟩ := bs_ H
             by_cases c57 : t599 = true
             · subst c57
               rw [if_pos rfl] at H
               obtain ⟨t600, A58, H⟩ := bs_ H
               obtain ⟨t603, A59, H⟩ := bs_ H
               by_cases c60 : t603 = true
               · subst c60
                 rw [if_pos rfl] at H
                 obtain ⟨t604, A61, H⟩ := bs_ H
                 have H' := Aside0.mk H
                 clear H
                 have hq0 := True.intro
                 repeat ((first | clear hq0 | go_quiet (first | (go_at_call 19; (with_reducible refine (althinglaw05_same.calls k2 _ _ t600 _ _ t596 true _ ?side1 ?side2 ?side3 ?side4 A59.out).mono ?_); (case side1 => repeat (first | exact (Kd.R_reads' HO602.out).2.2 | (with_reducible refine Kd.C_alloc ?_ _) | (with_reducible refine Kd.C_drewN ?_ _) | (with_reducible refine Kd.C_drew ?_))); (case side2 => exact (Kd.R_reads' HO602.out).2.1); (case side3 => repeat (first | exact (Kd.R_reads' HO598.out).2.2 | (with_reducible refine Kd.C_alloc ?_ _) | (with_reducible refine Kd.C_drewN ?_ _) | (with_reducible refine Kd.C_drew ?_))); (case side4 => exact (Kd.R_reads' HO598.out).2.1); rintro e w' ⟨rfl, ⟨nd, rfl⟩⟩; (try first | exact ⟨rfl, _, World.drewN_drewN _ _ _⟩ | exact ⟨rfl, _, Eq.trans (World.drewN_drewN _ _ _) (congrArg (World.drewN _) (Nat.add_assoc _ _ _))⟩); refine blk9_ BK592.out fun hcz78_0 hcz78_1 hcz78_2 hcz78_3 hcz78_4 hcz78_5 hcz78_6 hcz78_7 hcz78_8 hfz78_0 hfz78_1 hfz78_2 hfz78_3 hfz78_4 hfz78_5 hfz78_6 hfz78_7 hfz78_8 => ?_; obtain ⟨Ao79, co79, eo79⟩ := Kd.R_slice HO_7.out; subst eo79))); try go_wp2_with (first | ((with_reducible refine gate_dst (N := 40) rfl ?_); refine blk_load_event ?lg (N := 40) ?ld (t := 29) (x := ?lxxz62) ?lo (g := gb566) ?lx (cs := _) BK566.out ?lD ?lt ?_; (case lg => rfl); (case ld => rfl); (case lo => rfl); (case lx => first | rfl | (go_simp; done) | (go_simp; rfl)); (case lD => exact ⟨_, Try.underlying29, rfl⟩); (case lt => kernel_rfl)) | (go_at_call 15; (with_reducible refine (command_Part.calls k2 a0_0 a0_1 a0_2 a0_3 a0_4 a0_5 _ _ l0_6 _ _ l0_7 a0_8 x36_2 a1 t578 t579 t580 t581 t582 t583 t584 t587 t590 t591 _ ?side1 ?side2 ?side3 ?side4 A51.out).mono ?_); (case side1 => repeat (first | exact (Kd.V_reads' HO_567006.out).2.2 | (with_reducible refine Kd.C_alloc ?_ _) | (with_reducible refine Kd.C_drewN ?_ _) | (with_reducible refine Kd.C_drew ?_))); (case side2 => exact (Kd.V_reads' HO_567006.out).2.1); (case side3 => repeat (first | exact (Kd.V_reads' HO_567007.out).2.2 | (with_reducible refine Kd.C_alloc ?_ _) | (with_reducible refine Kd.C_drewN ?_ _) | (with_reducible refine Kd.C_drew ?_))); (case side4 => exact (Kd.V_reads' HO_567007.out).2.1); rintro e w63 ⟨v585, v588, rfl, ho0, ho1, hb⟩; have n0_ := Aside0.mk (Kd.R_below (kr_ HO_7.out) hb); have n1_ := Aside0.mk (Kd.V_mono (Kd.V_told (Kd.V_told (Kd.V_old (kv_ HO_567006.out) hb) (Kd.R_base ho0)) (Kd.R_base ho1)) (fun _ h_ => h_.1)); have n2_ := Aside0.mk (Kd.V_mono (Kd.V_told (Kd.V_told (Kd.V_old (kv_ HO_567007.out) hb) (Kd.R_base ho0)) (Kd.R_base ho1)) (fun _ h_ => h_.1)); have n3_ := Aside0.mk (Kd.R_lower (Kd.R_newM (M := fun k_ => (w.heap.size ≤ k_)) ho0 (below_size (by repeat (first | (with_reducible first | exact HB.out | apply below_alloc | apply pw_below_drewN | apply below_drew1 | refine below_set ?_ GE566.out) | exact HB.out))) (fun k_ h_ => h_)) (below_size (by repeat (first | (with_reducible first | exact HB.out | apply below_alloc | apply pw_below_drewN | apply below_drew1 | refine below_set ?_ GE566.out) | exact HB.out)))); have n4_ := Aside0.mk (Kd.R_lower (Kd.R_newM (M := fun k_ => (w.heap.size ≤ k_)) ho1 (below_size (by repeat (first | (with_reducible first | exact HB.out | apply below_alloc | apply pw_below_drewN | apply below_drew1 | refine below_set ?_ GE566.out) | exact HB.out))) (fun k_ h_ => h_)) (below_size (by repeat (first | (with_reducible first | exact HB.out | apply below_alloc | apply pw_below_drewN | apply below_drew1 | refine below_set ?_ GE566.out) | exact HB.out)))); have n5_ := Aside0.mk (blk_below (kb_ BK566.out) hb); have n6_ := Aside0.mk (below_step (by repeat (first | (with_reducible first | exact HB.out | apply below_alloc | apply pw_below_drewN | apply below_drew1 | refine below_set ?_ GE566.out) | exact HB.out)) hb); clear HO_7; clear HO_567006; clear HO_567007; clear BK566; clear HB; have HO_7 := n0_; have HO_567006 := n1_; have HO_567007 := n2_; have HO586 := n3_; have HO589 := n4_; have BK566 := n5_; have HB := n6_; clear n0_ n1_ n2_ n3_ n4_ n5_ n6_; (try clear hb); (try clear hb2); (try clear hk); (try clear hi); (try clear ho0); (try clear ho1); obtain ⟨Ao64, co64, eo64⟩ := Kd.R_slice HO586.out; subst eo64; obtain ⟨Ao65, co65, eo65⟩ := Kd.R_slice HO589.out; subst eo65) | ((with_reducible refine gate_dst (N := 9) rfl ?_); (try (refine gate_guard (by rfl) ?_; dsimp only)); refine alloc_store_event ?hg1 (N := 9) ?hd1 ?hg2 ?hd2 ?ho2 (cs0 := #[.int .i64 0, .int .i64 0, .int .i64 0, .int .i64 0, .int .i64 0, .int .i64 0, .slice none 0 0, .slice none 0 0, .bool false]) (cs := #[.int .i64 t578, .int .i64 t579, .int .i64 t580, .int .i64 t581, .int .i64 t582, .int .i64 t583, .slice Ao64 t584.length co64, .slice Ao65 t587.length co65, .bool t590]) (t := 29) (x := ?xxw66) ?hr ?hp ?hx ?hs ?h1 ?ht ?_; (case hg1 => rfl); (case hd1 => rfl); (case hg2 => rfl); (case hd2 => rfl); (case ho2 => rfl); (case hr => first | (go_simp; done) | (go_simp; rfl)); (case hp => rfl); (case hx => rfl); (case hs => rfl); (case h1 => rfl); (case ht => kernel_rfl); intro gb592 hg w66 hbox hb; have n0_ := Aside0.mk (Kd.R_below (kr_ HO_7.out) hb); have n1_ := Aside0.mk (Kd.V_below (Kd.V_elderB (kv_ HO_567006.out) gb592 (Nat.le_of_eq hg.symm)) hb); have n2_ := Aside0.mk (Kd.V_below (Kd.V_elderB (kv_ HO_567007.out) gb592 (Nat.le_of_eq hg.symm)) hb); have n3_ := Aside0.mk (Kd.R_below (kr_ HO586.out) hb); have n4_ := Aside0.mk (Kd.R_below (kr_ HO589.out) hb); have n5_ := Aside0.mk (blk_below (kb_ BK566.out) hb); have n6_ := Aside0.mk (below_step (by repeat (first | (with_reducible first | exact HB.out | apply below_alloc | apply pw_below_drewN | apply below_drew1 | refine below_set ?_ GE566.out) | exact HB.out)) hb); have n7_ := Aside0.mk (hbox); have n8_ := Aside0.mk ((by rw [hg]; exact (below_size (by repeat (first | (with_reducible first | exact HB.out | apply below_alloc | apply pw_below_drewN | apply below_drew1 | refine below_set ?_ GE566.out) | exact HB.out))) : w.heap.size ≤ gb592)); have n9_ := Aside0.mk ((by rw [hg]; exact (below_size (by repeat (first | (with_reducible first | exact HB.out | apply below_alloc | apply pw_below_drewN | apply below_drew1 | refine below_set ?_ GE566.out) | exact HB.out))) : w.heap.size ≤ gb592)); have n10_ := Aside0.mk ((by rw [hg]; exact Nat.ne_of_lt (blk_lt (kb_ BK566.out)) : gb566 ≠ gb592)); have n11_ := Aside0.mk ((by rw [hg]; exact Nat.ne_of_gt (blk_lt (kb_ BK566.out)) : gb592 ≠ gb566)); clear HO_7; clear HO_567006; clear HO_567007; clear HO586; clear HO589; clear BK566; clear HB; have HO_7 := n0_; have HO_567006 := n1_; have HO_567007 := n2_; have HO586 := n3_; have HO589 := n4_; have BK566 := n5_; have HB := n6_; have BK592 := n7_; have GW592 := n8_; have GE592 := n9_; have NB566_592 := n10_; have NB592_566 := n11_; clear n0_ n1_ n2_ n3_ n4_ n5_ n6_ n7_ n8_ n9_ n10_ n11_; clear hb hbox hg) | ((with_reducible refine gate_dst (N := 46) rfl ?_); refine blk_load_event ?lg (N := 46) ?ld (t := 29) (x := ?lxxz67) ?lo (g := gb566) ?lx (cs := _) BK566.out ?lD ?lt ?_; (case lg => rfl); (case ld => rfl); (case lo => rfl); (case lx => first | rfl | (go_simp; done) | (go_simp; rfl)); (case lD => exact ⟨_, Try.underlying29, rfl⟩); (case lt => kernel_rfl)) | (go_at_call 18; (with_reducible refine (althingref05_Keys.calls k2 a0_0 a0_1 a0_2 a0_3 a0_4 a0_5 _ _ l0_6 _ _ l0_7 a0_8 t593 _ ?side1 ?side2 ?side3 ?side4 A52.out).mono ?_); (case side1 => repeat (first | exact (Kd.V_reads' HO_567006.out).2.2 | (with_reducible refine Kd.C_alloc ?_ _) | (with_reducible refine Kd.C_drewN ?_ _) | (with_reducible refine Kd.C_drew ?_))); (case side2 => exact (Kd.V_reads' HO_567006.out).2.1); (case side3 => repeat (first | exact (Kd.V_reads' HO_567007.out).2.2 | (with_reducible refine Kd.C_alloc ?_ _) | (with_reducible refine Kd.C_drewN ?_ _) | (with_reducible refine Kd.C_drew ?_))); (case side4 => exact (Kd.V_reads' HO_567007.out).2.1); rintro e w68 ⟨v594, rfl, ho0, hb⟩; have n0_ := Aside0.mk (Kd.R_elder' (kr_ HO_7.out) (Kd.R_base ho0) hb); have n1_ := Aside0.mk (Kd.V_elder' (kv_ HO_567006.out) (Kd.R_base ho0) hb); have n2_ := Aside0.mk (Kd.V_elder' (kv_ HO_567007.out) (Kd.R_base ho0) hb); have n3_ := Aside0.mk (Kd.R_below (kr_ HO586.out) hb); have n4_ := Aside0.mk (Kd.R_below (kr_ HO589.out) hb); have n5_ := Aside0.mk (Kd.R_lower (Kd.R_new' (Kd.R_newM (M := fun k_ => (w.heap.size ≤ k_)) ho0 (below_size (by repeat (first | (with_reducible first | exact HB.out | apply below_alloc | apply pw_below_drewN | apply below_drew1 | refine below_set ?_ GE566.out | refine below_set ?_ GE592.out) | exact HB.out))) (fun k_ h_ => h_)) (Kd.R_lt (kr_ HO_7.out))) (below_size (by repeat (first | (with_reducible first | exact HB.out | apply below_alloc | apply pw_below_drewN | apply below_drew1 | refine below_set ?_ GE566.out | refine below_set ?_ GE592.out) | exact HB.out)))); have n6_ := Aside0.mk (blk_below (kb_ BK566.out) hb); have n7_ := Aside0.mk (blk_below (kb_ BK592.out) hb); have n8_ := Aside0.mk (below_step (by repeat (first | (with_reducible first | exact HB.out | apply below_alloc | apply pw_below_drewN | apply below_drew1 | refine below_set ?_ GE566.out | refine below_set ?_ GE592.out) | exact HB.out)) hb); clear HO_7; clear HO_567006; clear HO_567007; clear HO586; clear HO589; clear BK566; clear BK592; clear HB; have HO_7 := n0_; have HO_567006 := n1_; have HO_567007 := n2_; have HO586 := n3_; have HO589 := n4_; have HO595 := n5_; have BK566 := n6_; have BK592 := n7_; have HB := n8_; clear n0_ n1_ n2_ n3_ n4_ n5_ n6_ n7_ n8_; (try clear hb); (try clear hb2); (try clear hk); (try clear hi); (try clear ho0); obtain ⟨Ao69, co69, eo69⟩ := Kd.R_slice HO595.out; subst eo69) | (go_at_call 17; (with_reducible refine (keys_Of.calls k2 _ _ t593 x36_2 a1 t596 _ ?side1 ?side2 A53.out).mono ?_); (case side1 => repeat (first | exact (Kd.R_reads' HO595.out).2.2 | (with_reducible refine Kd.C_alloc ?_ _) | (with_reducible refine Kd.C_drewN ?_ _) | (with_reducible refine Kd.C_drew ?_))); (case side2 => exact (Kd.R_reads' HO595.out).2.1); rintro e w70 ⟨v597, rfl, ho0, hb⟩; have n0_ := Aside0.mk (Kd.R_elder' (kr_ HO_7.out) (Kd.R_base ho0) hb); have n1_ := Aside0.mk (Kd.V_elder' (kv_ HO_567006.out) (Kd.R_base ho0) hb); have n2_ := Aside0.mk (Kd.V_elder' (kv_ HO_567007.out) (Kd.R_base ho0) hb); have n3_ := Aside0.mk (Kd.R_below (kr_ HO586.out) hb); have n4_ := Aside0.mk (Kd.R_below (kr_ HO589.out) hb); have n5_ := Aside0.mk (Kd.R_elder' (kr_ HO595.out) (Kd.R_base ho0) hb); have n6_ := Aside0.mk (Kd.R_lower (Kd.R_new' (Kd.R_new' (Kd.R_newM (M := fun k_ => (w.heap.size ≤ k_)) ho0 (below_size (by repeat (first | (with_reducible first | exact HB.out | apply below_alloc | apply pw_below_drewN | apply below_drew1 | refine below_set ?_ GE566.out | refine below_set ?_ GE592.out) | exact HB.out))) (fun k_ h_ => h_)) (Kd.R_lt (kr_ HO_7.out))) (Kd.R_lt (kr_ HO595.out))) (below_size (by repeat (first | (with_reducible first | exact HB.out | apply below_alloc | apply pw_below_drewN | apply below_drew1 | refine below_set ?_ GE566.out | refine below_set ?_ GE592.out) | exact HB.out)))); have n7_ := Aside0.mk (blk_below (kb_ BK566.out) hb); have n8_ := Aside0.mk (blk_below (kb_ BK592.out) hb); have n9_ := Aside0.mk (below_step (by repeat (first | (with_reducible first | exact HB.out | apply below_alloc | apply pw_below_drewN | apply below_drew1 | refine below_set ?_ GE566.out | refine below_set ?_ GE592.out) | exact HB.out)) hb); clear HO_7; clear HO_567006; clear HO_567007; clear HO586; clear HO589; clear HO595; clear BK566; clear BK592; clear HB; have HO_7 := n0_; have HO_567006 := n1_; have HO_567007 := n2_; have HO586 := n3_; have HO589 := n4_; have HO595 := n5_; have HO598 := n6_; have BK566 := n7_; have BK592 := n8_; have HB := n9_; clear n0_ n1_ n2_ n3_ n4_ n5_ n6_ n7_ n8_ n9_; (try clear hb); (try clear hb2); (try clear hk); (try clear hi); (try clear ho0); obtain ⟨Ao71, co71, eo71⟩ := Kd.R_slice HO598.out; subst eo71; have hnb72 := NB592_566.out; have hnc72 := NB566_592.out; refine blk9_ BK592.out fun hcz73_0 hcz73_1 hcz73_2 hcz73_3 hcz73_4 hcz73_5 hcz73_6 hcz73_7 hcz73_8 hfz73_0 hfz73_1 hfz73_2 hfz73_3 hfz73_4 hfz73_5 hfz73_6 hfz73_7 hfz73_8 => ?_) | (go_at_call 16; (with_reducible refine (althingref05_Right.calls k2 t578 t579 t580 t581 t582 t583 _ _ t584 _ _ t587 t590 true _ ?side1 ?side2 ?side3 ?side4 A56.out).mono ?_); (case side1 => repeat (first | exact (Kd.R_reads' HO586.out).2.2 | (with_reducible refine Kd.C_alloc ?_ _) | (with_reducible refine Kd.C_drewN ?_ _) | (with_reducible refine Kd.C_drew ?_))); (case side2 => exact (Kd.R_reads' HO586.out).2.1); (case side3 => repeat (first | exact (Kd.R_reads' HO589.out).2.2 | (with_reducible refine Kd.C_alloc ?_ _) | (with_reducible refine Kd.C_drewN ?_ _) | (with_reducible refine Kd.C_drew ?_))); (case side4 => exact (Kd.R_reads' HO589.out).2.1); rintro e w74 ⟨rfl, hb⟩; have n0_ := Aside0.mk (Kd.R_below (kr_ HO_7.out) hb); have n1_ := Aside0.mk (Kd.V_below (kv_ HO_567006.out) hb); have n2_ := Aside0.mk (Kd.V_below (kv_ HO_567007.out) hb); have n3_ := Aside0.mk (Kd.R_below (kr_ HO586.out) hb); have n4_ := Aside0.mk (Kd.R_below (kr_ HO589.out) hb); have n5_ := Aside0.mk (Kd.R_below (kr_ HO595.out) hb); have n6_ := Aside0.mk (Kd.R_below (kr_ HO598.out) hb); have n7_ := Aside0.mk (blk_below (kb_ BK566.out) hb); have n8_ := Aside0.mk (blk_below (kb_ BK592.out) hb); have n9_ := Aside0.mk (below_step (by repeat (first | (with_reducible first | exact HB.out | apply below_alloc | apply pw_below_drewN | apply below_drew1 | refine below_set ?_ GE566.out | refine below_set ?_ GE592.out) | exact HB.out)) hb); clear HO_7; clear HO_567006; clear HO_567007; clear HO586; clear HO589; clear HO595; clear HO598; clear BK566; clear BK592; clear HB; have HO_7 := n0_; have HO_567006 := n1_; have HO_567007 := n2_; have HO586 := n3_; have HO589 := n4_; have HO595 := n5_; have HO598 := n6_; have BK566 := n7_; have BK592 := n8_; have HB := n9_; clear n0_ n1_ n2_ n3_ n4_ n5_ n6_ n7_ n8_ n9_; (try clear hb); (try clear hb2); (try clear hk); (try clear hi); refine blk9_ BK592.out fun hcz75_0 hcz75_1 hcz75_2 hcz75_3 hcz75_4 hcz75_5 hcz75_6 hcz75_7 hcz75_8 hfz75_0 hfz75_1 hfz75_2 hfz75_3 hfz75_4 hfz75_5 hfz75_6 hfz75_7 hfz75_8 => ?_) | (go_at_call 18; (with_reducible refine (althingref05_Keys.calls k2 t578 t579 t580 t581 t582 t583 _ _ t584 _ _ t587 t590 t600 _ ?side1 ?side2 ?side3 ?side4 A58.out).mono ?_); (case side1 => repeat (first | exact (Kd.R_reads' HO586.out).2.2 | (with_reducible refine Kd.C_alloc ?_ _) | (with_reducible refine Kd.C_drewN ?_ _) | (with_reducible refine Kd.C_drew ?_))); (case side2 => exact (Kd.R_reads' HO586.out).2.1); (case side3 => repeat (first | exact (Kd.R_reads' HO589.out).2.2 | (with_reducible refine Kd.C_alloc ?_ _) | (with_reducible refine Kd.C_drewN ?_ _) | (with_reducible refine Kd.C_drew ?_))); (case side4 => exact (Kd.R_reads' HO589.out).2.1); rintro e w76 ⟨v601, rfl, ho0, hb⟩; have n0_ := Aside0.mk (Kd.R_elder' (kr_ HO_7.out) (Kd.R_base ho0) hb); have n1_ := Aside0.mk (Kd.V_elder' (kv_ HO_567006.out) (Kd.R_base ho0) hb); have n2_ := Aside0.mk (Kd.V_elder' (kv_ HO_567007.out) (Kd.R_base ho0) hb); have n3_ := Aside0.mk (Kd.R_below (kr_ HO586.out) hb); have n4_ := Aside0.mk (Kd.R_below (kr_ HO589.out) hb); have n5_ := Aside0.mk (Kd.R_elder' (kr_ HO595.out) (Kd.R_base ho0) hb); have n6_ := Aside0.mk (Kd.R_elder' (kr_ HO598.out) (Kd.R_base ho0) hb); have n7_ := Aside0.mk (Kd.R_lower (Kd.R_new' (Kd.R_new' (Kd.R_new' (Kd.R_newM (M := fun k_ => (w.heap.size ≤ k_)) ho0 (below_size (by repeat (first | (with_reducible first | exact HB.out | apply below_alloc | apply pw_below_drewN | apply below_drew1 | refine below_set ?_ GE566.out | refine below_set ?_ GE592.out) | exact HB.out))) (fun k_ h_ => h_)) (Kd.R_lt (kr_ HO_7.out))) (Kd.R_lt (kr_ HO595.out))) (Kd.R_lt (kr_ HO598.out))) (below_size (by repeat (first | (with_reducible first | exact HB.out | apply below_alloc | apply pw_below_drewN | apply below_drew1 | refine below_set ?_ GE566.out | refine below_set ?_ GE592.out) | exact HB.out)))); have n8_ := Aside0.mk (blk_below (kb_ BK566.out) hb); have n9_ := Aside0.mk (blk_below (kb_ BK592.out) hb); have n10_ := Aside0.mk (below_step (by repeat (first | (with_reducible first | exact HB.out | apply below_alloc | apply pw_below_drewN | apply below_drew1 | refine below_set ?_ GE566.out | refine below_set ?_ GE592.out) | exact HB.out)) hb); clear HO_7; clear HO_567006; clear HO_567007; clear HO586; clear HO589; clear HO595; clear HO598; clear BK566; clear BK592; clear HB; have HO_7 := n0_; have HO_567006 := n1_; have HO_567007 := n2_; have HO586 := n3_; have HO589 := n4_; have HO595 := n5_; have HO598 := n6_; have HO602 := n7_; have BK566 := n8_; have BK592 := n9_; have HB := n10_; clear n0_ n1_ n2_ n3_ n4_ n5_ n6_ n7_ n8_ n9_ n10_; (try clear hb); (try clear hb2); (try clear hk); (try clear hi); (try clear ho0); obtain ⟨Ao77, co77, eo77⟩ := Kd.R_slice HO602.out; subst eo77) | (go_at_call 19; (with_reducible refine (althinglaw05_same.calls k2 _ _ t600 _ _ t596 true _ ?side1 ?side2 ?side3 ?side4 A59.out).mono ?_); (case side1 => repeat (first | exact (Kd.R_reads' HO602.out).2.2 | (with_reducible refine Kd.C_alloc ?_ _) | (with_reducible refine Kd.C_drewN ?_ _) | (with_reducible refine Kd.C_drew ?_))); (case side2 => exact (Kd.R_reads' HO602.out).2.1); (case side3 => repeat (first | exact (Kd.R_reads' HO598.out).2.2 | (with_reducible refine Kd.C_alloc ?_ _) | (with_reducible refine Kd.C_drewN ?_ _) | (with_reducible refine Kd.C_drew ?_))); (case side4 => exact (Kd.R_reads' HO598.out).2.1); rintro e w' ⟨rfl, ⟨nd, rfl⟩⟩; (try first | exact ⟨rfl, _, World.drewN_drewN _ _ _⟩ | exact ⟨rfl, _, Eq.trans (World.drewN_drewN _ _ _) (congrArg (World.drewN _) (Nat.add_assoc _ _ _))⟩); refine blk9_ BK592.out fun hcz78_0 hcz78_1 hcz78_2 hcz78_3 hcz78_4 hcz78_5 hcz78_6 hcz78_7 hcz78_8 hfz78_0 hfz78_1 hfz78_2 hfz78_3 hfz78_4 hfz78_5 hfz78_6 hfz78_7 hfz78_8 => ?_; obtain ⟨Ao79, co79, eo79⟩ := Kd.R_slice HO_7.out; subst eo79) | (go_at_call 20; (with_reducible refine (althingref04_Join.calls k2 _ _ x7_2 _ _ t596 t604 _ ?side1 ?side2 ?side3 ?side4 A61.out).mono ?_); (case side1 => repeat (first | exact (Kd.R_reads' HO_7.out).2.2 | (with_reducible refine Kd.C_alloc ?_ _) | (with_reducible refine Kd.C_drewN ?_ _) | (with_reducible refine Kd.C_drew ?_))); (case side2 => exact (Kd.R_reads' HO_7.out).2.1); (case side3 => repeat (first | exact (Kd.R_reads' HO598.out).2.2 | (with_reducible refine Kd.C_alloc ?_ _) | (with_reducible refine Kd.C_drewN ?_ _) | (with_reducible refine Kd.C_drew ?_))); (case side4 => exact (Kd.R_reads' HO598.out).2.1); rintro e w80 ⟨v605, rfl, ho0, hb⟩; have n0_ := Aside0.mk (Kd.R_elder' (kr_ HO_7.out) (Kd.R_base ho0) hb); have n1_ := Aside0.mk (Kd.V_elder' (kv_ HO_567006.out) (Kd.R_base ho0) hb); have n2_ := Aside0.mk (Kd.V_elder' (kv_ HO_567007.out) (Kd.R_base ho0) hb); have n3_ := Aside0.mk (Kd.R_below (kr_ HO586.out) hb); have n4_ := Aside0.mk (Kd.R_below (kr_ HO589.out) hb); have n5_ := Aside0.mk (Kd.R_elder' (kr_ HO595.out) (Kd.R_base ho0) hb); have n6_ := Aside0.mk (Kd.R_elder' (kr_ HO598.out) (Kd.R_base ho0) hb); have n7_ := Aside0.mk (Kd.R_elder' (kr_ HO602.out) (Kd.R_base ho0) hb); have n8_ := Aside0.mk (Kd.R_lower (Kd.R_new' (Kd.R_new' (Kd.R_new' (Kd.R_new' (Kd.R_newM (M := fun k_ => (w.heap.size ≤ k_)) ho0 (below_size (by repeat (first | (with_reducible first | exact HB.out | apply below_alloc | apply pw_below_drewN | apply below_drew1 | refine below_set ?_ GE566.out | refine below_set ?_ GE592.out) | exact HB.out))) (fun k_ h_ => h_)) (Kd.R_lt (kr_ HO_7.out))) (Kd.R_lt (kr_ HO595.out))) (Kd.R_lt (kr_ HO598.out))) (Kd.R_lt (kr_ HO602.out))) (below_size (by repeat (first | (with_reducible first | exact HB.out | apply below_alloc | apply pw_below_drewN | apply below_drew1 | refine below_set ?_ GE566.out | refine below_set ?_ GE592.out) | exact HB.out)))); have n9_ := Aside0.mk (blk_below (kb_ BK566.out) hb); have n10_ := Aside0.mk (blk_below (kb_ BK592.out) hb); have n11_ := Aside0.mk (below_step (by repeat (first | (with_reducible first | exact HB.out | apply below_alloc | apply pw_below_drewN | apply below_drew1 | refine below_set ?_ GE566.out | refine below_set ?_ GE592.out) | exact HB.out)) hb); clear HO_7; clear HO_567006; clear HO_567007; clear HO586; clear HO589; clear HO595; clear HO598; clear HO602; clear BK566; clear BK592; clear HB; have HO_7 := n0_; have HO_567006 := n1_; have HO_567007 := n2_; have HO586 := n3_; have HO589 := n4_; have HO595 := n5_; have HO598 := n6_; have HO602 := n7_; have HO606 := n8_; have BK566 := n9_; have BK592 := n10_; have HB := n11_; clear n0_ n1_ n2_ n3_ n4_ n5_ n6_ n7_ n8_ n9_ n10_ n11_; (try clear hb); (try clear hb2); (try clear hk); (try clear hi); (try clear ho0))))
                 go_roundg k2
                 case measure => have := HJ2.out; have := HK2.out; omega
                 case rel => exact ⟨(wrap64 (x5_2 + (t584.length : Int))), (wrap64 (x6_2 + (t587.length : Int))), (t604), (wrap64 (x36_2 + 1)), (by first | rfl | (simp; done) | (simp [*]; done)), (by first | rfl | (simp; done) | (simp [*]; done)), (by first | rfl | (simp; done) | (simp [*]; done)), H', ⟨by have := HJ2.out; have := HK2.out; omega⟩, ⟨by (with_reducible repeat (first | apply Kd.R_alloc | apply Kd.R_drewN | apply Kd.R_drew)); exact Kd.R_mono HO606.out (fun _ hk => hk.1.1.1.1.1)⟩, ⟨by (with_reducible repeat (first | apply Kd.V_alloc | apply Kd.V_drewN | apply Kd.V_drew)); exact Kd.V_mono HO_567006.out (fun _ hk => ⟨hk.1.1.1.1.1.1.1.1, ⟨hk.2, hk.1.1.1.1.1.1.1.2.2⟩⟩)⟩, ⟨by (with_reducible repeat (first | apply Kd.V_alloc | apply Kd.V_drewN | apply Kd.V_drew)); exact Kd.V_mono HO_567007.out (fun _ hk => ⟨hk.1.1.1.1.1.1.1.1, ⟨hk.2, hk.1.1.1.1.1.1.1.2.2⟩⟩)⟩, ⟨by (with_reducible repeat (first | refine blk_drewN ?_ _ | refine blk_drew ?_ | refine blk_alloc ?_ _)); exact BK566.out⟩, ⟨by repeat (first | (with_reducible first | exact HB.out | apply below_alloc | apply pw_below_drewN | apply below_drew1 | refine below_set ?_ GE566.out | refine below_set ?_ GE592.out) | exact HB.out)⟩⟩
               · replace c60 := Bool.eq_false_iff.mpr c60
                 subst c60
                 rw [if_neg (show ¬ (false = true) by decide)] at H
                 exact absurd H (by simp)
             · replace c57 := Bool.eq_false_iff.mpr c57
               subst c57
               rw [if_neg (show ¬ (false = true) by decide)] at H
               exact absurd H (by simp)
           · rw [if_neg c55] at H
             have c55b0 : (t591 == 0) = false := beq_eq_false_iff_ne.mpr c55
             have c55b1 : (t591 != 0) = true := bne_iff_ne.mpr c55
             obtain ⟨t607, A81, H⟩ := bs_ H
             have H' := Aside0.mk H
             clear H
             have hq0 := True.intro
             repeat ((first | clear hq0 | go_quiet (fail)); try go_wp2_with (first | ((with_reducible refine gate_dst (N := 40) rfl ?_); refine blk_load_event ?lg (N := 40) ?ld (t := 29) (x := ?lxxz82) ?lo (g := gb566) ?lx (cs := _) BK566.out ?lD ?lt ?_; (case lg => rfl); (case ld => rfl); (case lo => rfl); (case lx => first | rfl | (go_simp; done) | (go_simp; rfl)); (case lD => exact ⟨_, Try.underlying29, rfl⟩); (case lt => kernel_rfl)) | (go_at_call 15; (with_reducible refine (command_Part.calls k2 a0_0 a0_1 a0_2 a0_3 a0_4 a0_5 _ _ l0_6 _ _ l0_7 a0_8 x36_2 a1 t578 t579 t580 t581 t582 t583 t584 t587 t590 t591 _ ?side1 ?side2 ?side3 ?side4 A51.out).mono ?_); (case side1 => repeat (first | exact (Kd.V_reads' HO_567006.out).2.2 | (with_reducible refine Kd.C_alloc ?_ _) | (with_reducible refine Kd.C_drewN ?_ _) | (with_reducible refine Kd.C_drew ?_))); (case side2 => exact (Kd.V_reads' HO_567006.out).2.1); (case side3 => repeat (first | exact (Kd.V_reads' HO_567007.out).2.2 | (with_reducible refine Kd.C_alloc ?_ _) | (with_reducible refine Kd.C_drewN ?_ _) | (with_reducible refine Kd.C_drew ?_))); (case side4 => exact (Kd.V_reads' HO_567007.out).2.1); rintro e w83 ⟨v585, v588, rfl, ho0, ho1, hb⟩; have n0_ := Aside0.mk (Kd.R_below (kr_ HO_7.out) hb); have n1_ := Aside0.mk (Kd.V_mono (Kd.V_told (Kd.V_told (Kd.V_old (kv_ HO_567006.out) hb) (Kd.R_base ho0)) (Kd.R_base ho1)) (fun _ h_ => h_.1)); have n2_ := Aside0.mk (Kd.V_mono (Kd.V_told (Kd.V_told (Kd.V_old (kv_ HO_567007.out) hb) (Kd.R_base ho0)) (Kd.R_base ho1)) (fun _ h_ => h_.1)); have n3_ := Aside0.mk (Kd.R_lower (Kd.R_newM (M := fun k_ => (w.heap.size ≤ k_)) ho0 (below_size (by repeat (first | (with_reducible first | exact HB.out | apply below_alloc | apply pw_below_drewN | apply below_drew1 | refine below_set ?_ GE566.out) | exact HB.out))) (fun k_ h_ => h_)) (below_size (by repeat (first | (with_reducible first | exact HB.out | apply below_alloc | apply pw_below_drewN | apply below_drew1 | refine below_set ?_ GE566.out) | exact HB.out)))); have n4_ := Aside0.mk (Kd.R_lower (Kd.R_newM (M := fun k_ => (w.heap.size ≤ k_)) ho1 (below_size (by repeat (first | (with_reducible first | exact HB.out | apply below_alloc | apply pw_below_drewN | apply below_drew1 | refine below_set ?_ GE566.out) | exact HB.out))) (fun k_ h_ => h_)) (below_size (by repeat (first | (with_reducible first | exact HB.out | apply below_alloc | apply pw_below_drewN | apply below_drew1 | refine below_set ?_ GE566.out) | exact HB.out)))); have n5_ := Aside0.mk (blk_below (kb_ BK566.out) hb); have n6_ := Aside0.mk (below_step (by repeat (first | (with_reducible first | exact HB.out | apply below_alloc | apply pw_below_drewN | apply below_drew1 | refine below_set ?_ GE566.out) | exact HB.out)) hb); clear HO_7; clear HO_567006; clear HO_567007; clear BK566; clear HB; have HO_7 := n0_; have HO_567006 := n1_; have HO_567007 := n2_; have HO586 := n3_; have HO589 := n4_; have BK566 := n5_; have HB := n6_; clear n0_ n1_ n2_ n3_ n4_ n5_ n6_; (try clear hb); (try clear hb2); (try clear hk); (try clear hi); (try clear ho0); (try clear ho1); obtain ⟨Ao84, co84, eo84⟩ := Kd.R_slice HO586.out; subst eo84; obtain ⟨Ao85, co85, eo85⟩ := Kd.R_slice HO589.out; subst eo85) | ((with_reducible refine gate_dst (N := 9) rfl ?_); (try (refine gate_guard (by rfl) ?_; dsimp only)); refine alloc_store_event ?hg1 (N := 9) ?hd1 ?hg2 ?hd2 ?ho2 (cs0 := #[.int .i64 0, .int .i64 0, .int .i64 0, .int .i64 0, .int .i64 0, .int .i64 0, .slice none 0 0, .slice none 0 0, .bool false]) (cs := #[.int .i64 t578, .int .i64 t579, .int .i64 t580, .int .i64 t581, .int .i64 t582, .int .i64 t583, .slice Ao84 t584.length co84, .slice Ao85 t587.length co85, .bool t590]) (t := 29) (x := ?xxw86) ?hr ?hp ?hx ?hs ?h1 ?ht ?_; (case hg1 => rfl); (case hd1 => rfl); (case hg2 => rfl); (case hd2 => rfl); (case ho2 => rfl); (case hr => first | (go_simp; done) | (go_simp; rfl)); (case hp => rfl); (case hx => rfl); (case hs => rfl); (case h1 => rfl); (case ht => kernel_rfl); intro gb592 hg w86 hbox hb; have n0_ := Aside0.mk (Kd.R_below (kr_ HO_7.out) hb); have n1_ := Aside0.mk (Kd.V_below (Kd.V_elderB (kv_ HO_567006.out) gb592 (Nat.le_of_eq hg.symm)) hb); have n2_ := Aside0.mk (Kd.V_below (Kd.V_elderB (kv_ HO_567007.out) gb592 (Nat.le_of_eq hg.symm)) hb); have n3_ := Aside0.mk (Kd.R_below (kr_ HO586.out) hb); have n4_ := Aside0.mk (Kd.R_below (kr_ HO589.out) hb); have n5_ := Aside0.mk (blk_below (kb_ BK566.out) hb); have n6_ := Aside0.mk (below_step (by repeat (first | (with_reducible first | exact HB.out | apply below_alloc | apply pw_below_drewN | apply below_drew1 | refine below_set ?_ GE566.out) | exact HB.out)) hb); have n7_ := Aside0.mk (hbox); have n8_ := Aside0.mk ((by rw [hg]; exact (below_size (by repeat (first | (with_reducible first | exact HB.out | apply below_alloc | apply pw_below_drewN | apply below_drew1 | refine below_set ?_ GE566.out) | exact HB.out))) : w.heap.size ≤ gb592)); have n9_ := Aside0.mk ((by rw [hg]; exact (below_size (by repeat (first | (with_reducible first | exact HB.out | apply below_alloc | apply pw_below_drewN | apply below_drew1 | refine below_set ?_ GE566.out) | exact HB.out))) : w.heap.size ≤ gb592)); have n10_ := Aside0.mk ((by rw [hg]; exact Nat.ne_of_lt (blk_lt (kb_ BK566.out)) : gb566 ≠ gb592)); have n11_ := Aside0.mk ((by rw [hg]; exact Nat.ne_of_gt (blk_lt (kb_ BK566.out)) : gb592 ≠ gb566)); clear HO_7; clear HO_567006; clear HO_567007; clear HO586; clear HO589; clear BK566; clear HB; have HO_7 := n0_; have HO_567006 := n1_; have HO_567007 := n2_; have HO586 := n3_; have HO589 := n4_; have BK566 := n5_; have HB := n6_; have BK592 := n7_; have GW592 := n8_; have GE592 := n9_; have NB566_592 := n10_; have NB592_566 := n11_; clear n0_ n1_ n2_ n3_ n4_ n5_ n6_ n7_ n8_ n9_ n10_ n11_; clear hb hbox hg) | ((with_reducible refine gate_dst (N := 46) rfl ?_); refine blk_load_event ?lg (N := 46) ?ld (t := 29) (x := ?lxxz87) ?lo (g := gb566) ?lx (cs := _) BK566.out ?lD ?lt ?_; (case lg => rfl); (case ld => rfl); (case lo => rfl); (case lx => first | rfl | (go_simp; done) | (go_simp; rfl)); (case lD => exact ⟨_, Try.underlying29, rfl⟩); (case lt => kernel_rfl)) | (go_at_call 18; (with_reducible refine (althingref05_Keys.calls k2 a0_0 a0_1 a0_2 a0_3 a0_4 a0_5 _ _ l0_6 _ _ l0_7 a0_8 t593 _ ?side1 ?side2 ?side3 ?side4 A52.out).mono ?_); (case side1 => repeat (first | exact (Kd.V_reads' HO_567006.out).2.2 | (with_reducible refine Kd.C_alloc ?_ _) | (with_reducible refine Kd.C_drewN ?_ _) | (with_reducible refine Kd.C_drew ?_))); (case side2 => exact (Kd.V_reads' HO_567006.out).2.1); (case side3 => repeat (first | exact (Kd.V_reads' HO_567007.out).2.2 | (with_reducible refine Kd.C_alloc ?_ _) | (with_reducible refine Kd.C_drewN ?_ _) | (with_reducible refine Kd.C_drew ?_))); (case side4 => exact (Kd.V_reads' HO_567007.out).2.1); rintro e w88 ⟨v594, rfl, ho0, hb⟩; have n0_ := Aside0.mk (Kd.R_elder' (kr_ HO_7.out) (Kd.R_base ho0) hb); have n1_ := Aside0.mk (Kd.V_elder' (kv_ HO_567006.out) (Kd.R_base ho0) hb); have n2_ := Aside0.mk (Kd.V_elder' (kv_ HO_567007.out) (Kd.R_base ho0) hb); have n3_ := Aside0.mk (Kd.R_below (kr_ HO586.out) hb); have n4_ := Aside0.mk (Kd.R_below (kr_ HO589.out) hb); have n5_ := Aside0.mk (Kd.R_lower (Kd.R_new' (Kd.R_newM (M := fun k_ => (w.heap.size ≤ k_)) ho0 (below_size (by repeat (first | (with_reducible first | exact HB.out | apply below_alloc | apply pw_below_drewN | apply below_drew1 | refine below_set ?_ GE566.out | refine below_set ?_ GE592.out) | exact HB.out))) (fun k_ h_ => h_)) (Kd.R_lt (kr_ HO_7.out))) (below_size (by repeat (first | (with_reducible first | exact HB.out | apply below_alloc | apply pw_below_drewN | apply below_drew1 | refine below_set ?_ GE566.out | refine below_set ?_ GE592.out) | exact HB.out)))); have n6_ := Aside0.mk (blk_below (kb_ BK566.out) hb); have n7_ := Aside0.mk (blk_below (kb_ BK592.out) hb); have n8_ := Aside0.mk (below_step (by repeat (first | (with_reducible first | exact HB.out | apply below_alloc | apply pw_below_drewN | apply below_drew1 | refine below_set ?_ GE566.out | refine below_set ?_ GE592.out) | exact HB.out)) hb); clear HO_7; clear HO_567006; clear HO_567007; clear HO586; clear HO589; clear BK566; clear BK592; clear HB; have HO_7 := n0_; have HO_567006 := n1_; have HO_567007 := n2_; have HO586 := n3_; have HO589 := n4_; have HO595 := n5_; have BK566 := n6_; have BK592 := n7_; have HB := n8_; clear n0_ n1_ n2_ n3_ n4_ n5_ n6_ n7_ n8_; (try clear hb); (try clear hb2); (try clear hk); (try clear hi); (try clear ho0); obtain ⟨Ao89, co89, eo89⟩ := Kd.R_slice HO595.out; subst eo89) | (go_at_call 17; (with_reducible refine (keys_Of.calls k2 _ _ t593 x36_2 a1 t596 _ ?side1 ?side2 A53.out).mono ?_); (case side1 => repeat (first | exact (Kd.R_reads' HO595.out).2.2 | (with_reducible refine Kd.C_alloc ?_ _) | (with_reducible refine Kd.C_drewN ?_ _) | (with_reducible refine Kd.C_drew ?_))); (case side2 => exact (Kd.R_reads' HO595.out).2.1); rintro e w90 ⟨v597, rfl, ho0, hb⟩; have n0_ := Aside0.mk (Kd.R_elder' (kr_ HO_7.out) (Kd.R_base ho0) hb); have n1_ := Aside0.mk (Kd.V_elder' (kv_ HO_567006.out) (Kd.R_base ho0) hb); have n2_ := Aside0.mk (Kd.V_elder' (kv_ HO_567007.out) (Kd.R_base ho0) hb); have n3_ := Aside0.mk (Kd.R_below (kr_ HO586.out) hb); have n4_ := Aside0.mk (Kd.R_below (kr_ HO589.out) hb); have n5_ := Aside0.mk (Kd.R_elder' (kr_ HO595.out) (Kd.R_base ho0) hb); have n6_ := Aside0.mk (Kd.R_lower (Kd.R_new' (Kd.R_new' (Kd.R_newM (M := fun k_ => (w.heap.size ≤ k_)) ho0 (below_size (by repeat (first | (with_reducible first | exact HB.out | apply below_alloc | apply pw_below_drewN | apply below_drew1 | refine below_set ?_ GE566.out | refine below_set ?_ GE592.out) | exact HB.out))) (fun k_ h_ => h_)) (Kd.R_lt (kr_ HO_7.out))) (Kd.R_lt (kr_ HO595.out))) (below_size (by repeat (first | (with_reducible first | exact HB.out | apply below_alloc | apply pw_below_drewN | apply below_drew1 | refine below_set ?_ GE566.out | refine below_set ?_ GE592.out) | exact HB.out)))); have n7_ := Aside0.mk (blk_below (kb_ BK566.out) hb); have n8_ := Aside0.mk (blk_below (kb_ BK592.out) hb); have n9_ := Aside0.mk (below_step (by repeat (first | (with_reducible first | exact HB.out | apply below_alloc | apply pw_below_drewN | apply below_drew1 | refine below_set ?_ GE566.out | refine below_set ?_ GE592.out) | exact HB.out)) hb); clear HO_7; clear HO_567006; clear HO_567007; clear HO586; clear HO589; clear HO595; clear BK566; clear BK592; clear HB; have HO_7 := n0_; have HO_567006 := n1_; have HO_567007 := n2_; have HO586 := n3_; have HO589 := n4_; have HO595 := n5_; have HO598 := n6_; have BK566 := n7_; have BK592 := n8_; have HB := n9_; clear n0_ n1_ n2_ n3_ n4_ n5_ n6_ n7_ n8_ n9_; (try clear hb); (try clear hb2); (try clear hk); (try clear hi); (try clear ho0); obtain ⟨Ao91, co91, eo91⟩ := Kd.R_slice HO598.out; subst eo91; have hnb92 := NB592_566.out; have hnc92 := NB566_592.out; refine blk9_ BK592.out fun hcz93_0 hcz93_1 hcz93_2 hcz93_3 hcz93_4 hcz93_5 hcz93_6 hcz93_7 hcz93_8 hfz93_0 hfz93_1 hfz93_2 hfz93_3 hfz93_4 hfz93_5 hfz93_6 hfz93_7 hfz93_8 => ?_; obtain ⟨Ao94, co94, eo94⟩ := Kd.R_slice HO_7.out; subst eo94) | (go_at_call 20; (with_reducible refine (althingref04_Join.calls k2 _ _ x7_2 _ _ t596 t607 _ ?side1 ?side2 ?side3 ?side4 A81.out).mono ?_); (case side1 => repeat (first | exact (Kd.R_reads' HO_7.out).2.2 | (with_reducible refine Kd.C_alloc ?_ _) | (with_reducible refine Kd.C_drewN ?_ _) | (with_reducible refine Kd.C_drew ?_))); (case side2 => exact (Kd.R_reads' HO_7.out).2.1); (case side3 => repeat (first | exact (Kd.R_reads' HO598.out).2.2 | (with_reducible refine Kd.C_alloc ?_ _) | (with_reducible refine Kd.C_drewN ?_ _) | (with_reducible refine Kd.C_drew ?_))); (case side4 => exact (Kd.R_reads' HO598.out).2.1); rintro e w95 ⟨v608, rfl, ho0, hb⟩; have n0_ := Aside0.mk (Kd.R_elder' (kr_ HO_7.out) (Kd.R_base ho0) hb); have n1_ := Aside0.mk (Kd.V_elder' (kv_ HO_567006.out) (Kd.R_base ho0) hb); have n2_ := Aside0.mk (Kd.V_elder' (kv_ HO_567007.out) (Kd.R_base ho0) hb); have n3_ := Aside0.mk (Kd.R_below (kr_ HO586.out) hb); have n4_ := Aside0.mk (Kd.R_below (kr_ HO589.out) hb); have n5_ := Aside0.mk (Kd.R_elder' (kr_ HO595.out) (Kd.R_base ho0) hb); have n6_ := Aside0.mk (Kd.R_elder' (kr_ HO598.out) (Kd.R_base ho0) hb); have n7_ := Aside0.mk (Kd.R_lower (Kd.R_new' (Kd.R_new' (Kd.R_new' (Kd.R_newM (M := fun k_ => (w.heap.size ≤ k_)) ho0 (below_size (by repeat (first | (with_reducible first | exact HB.out | apply below_alloc | apply pw_below_drewN | apply below_drew1 | refine below_set ?_ GE566.out | refine below_set ?_ GE592.out) | exact HB.out))) (fun k_ h_ => h_)) (Kd.R_lt (kr_ HO_7.out))) (Kd.R_lt (kr_ HO595.out))) (Kd.R_lt (kr_ HO598.out))) (below_size (by repeat (first | (with_reducible first | exact HB.out | apply below_alloc | apply pw_below_drewN | apply below_drew1 | refine below_set ?_ GE566.out | refine below_set ?_ GE592.out) | exact HB.out)))); have n8_ := Aside0.mk (blk_below (kb_ BK566.out) hb); have n9_ := Aside0.mk (blk_below (kb_ BK592.out) hb); have n10_ := Aside0.mk (below_step (by repeat (first | (with_reducible first | exact HB.out | apply below_alloc | apply pw_below_drewN | apply below_drew1 | refine below_set ?_ GE566.out | refine below_set ?_ GE592.out) | exact HB.out)) hb); clear HO_7; clear HO_567006; clear HO_567007; clear HO586; clear HO589; clear HO595; clear HO598; clear BK566; clear BK592; clear HB; have HO_7 := n0_; have HO_567006 := n1_; have HO_567007 := n2_; have HO586 := n3_; have HO589 := n4_; have HO595 := n5_; have HO598 := n6_; have HO609 := n7_; have BK566 := n8_; have BK592 := n9_; have HB := n10_; clear n0_ n1_ n2_ n3_ n4_ n5_ n6_ n7_ n8_ n9_ n10_; (try clear hb); (try clear hb2); (try clear hk); (try clear hi); (try clear ho0))))
             go_roundg k2
             case measure => have := HJ2.out; have := HK2.out; omega
             case rel => exact ⟨(wrap64 (x5_2 + (t584.length : Int))), (wrap64 (x6_2 + (t587.length : Int))), (t607), (wrap64 (x36_2 + 1)), (by first | rfl | (simp; done) | (simp [*]; done)), (by first | rfl | (simp; done) | (simp [*]; done)), (by first | rfl | (simp; done) | (simp [*]; done)), H', ⟨by have := HJ2.out; have := HK2.out; omega⟩, ⟨by (with_reducible repeat (first | apply Kd.R_alloc | apply Kd.R_drewN | apply Kd.R_drew)); exact Kd.R_mono HO609.out (fun _ hk => hk.1.1.1.1)⟩, ⟨by (with_reducible repeat (first | apply Kd.V_alloc | apply Kd.V_drewN | apply Kd.V_drew)); exact Kd.V_mono HO_567006.out (fun _ hk => ⟨hk.1.1.1.1.1.1.1, ⟨hk.2, hk.1.1.1.1.1.1.2.2⟩⟩)⟩, ⟨by (with_reducible repeat (first | apply Kd.V_alloc | apply Kd.V_drewN | apply Kd.V_drew)); exact Kd.V_mono HO_567007.out (fun _ hk => ⟨hk.1.1.1.1.1.1.1, ⟨hk.2, hk.1.1.1.1.1.1.2.2⟩⟩)⟩, ⟨by (with_reducible repeat (first | refine blk_drewN ?_ _ | refine blk_drew ?_ | refine blk_alloc ?_ _)); exact BK566.out⟩, ⟨by repeat (first | (with_reducible first | exact HB.out | apply below_alloc | apply pw_below_drewN | apply below_drew1 | refine below_set ?_ GE566.out | refine below_set ?_ GE592.out) | exact HB.out)⟩⟩
       · rw [if_neg c50] at H
         have c50b0 : decide (x36_2 < a1) = false := decide_eq_false c50
         clear c50
         by_cases c96 : x5_2 = (l0_6.length : Int)
         · rw [if_pos c96] at H
           have c96b0 : (x5_2 == (l0_6.length : Int)) = true := beq_iff_eq.mpr c96
           have c96b1 : (x5_2 != (l0_6.length : Int)) = false := bne_eq_false_iff_eq.mpr c96
           clear c96
           by_cases c97 : x6_2 = (l0_7.length : Int)
           · rw [if_pos c97] at H
             have c97b0 : (x6_2 == (l0_7.length : Int)) = true := beq_iff_eq.mpr c97
             have c97b1 : (x6_2 != (l0_7.length : Int)) = false := bne_eq_false_iff_eq.mpr c97
             clear c97
             obtain ⟨t573, A98, H⟩ := bs_ H
             obtain ⟨t576, A99, H⟩ := bs_ H
             by_cases c100 : t576 = true
             · subst c100
               rw [if_pos rfl] at H
               obtain ⟨t577, A101, H⟩ := bs_ H
               obtain rfl := Option.some.inj H
               refine blk9_ BK566.out fun hcz102_0 hcz102_1 hcz102_2 hcz102_3 hcz102_4 hcz102_5 hcz102_6 hcz102_7 hcz102_8 hfz102_0 hfz102_1 hfz102_2 hfz102_3 hfz102_4 hfz102_5 hfz102_6 hfz102_7 hfz102_8 => ?_
               have hq0 := True.intro
               repeat ((first | clear hq0 | go_quiet (first | (go_at_call 19; (with_reducible refine (althinglaw05_same.calls k2 _ _ x7_2 _ _ t573 true _ ?side1 ?side2 ?side3 ?side4 A99.out).mono ?_); (case side1 => repeat (first | exact (Kd.R_reads' HO_7.out).2.2 | (with_reducible refine Kd.C_alloc ?_ _) | (with_reducible refine Kd.C_drewN ?_ _) | (with_reducible refine Kd.C_drew ?_))); (case side2 => exact (Kd.R_reads' HO_7.out).2.1); (case side3 => repeat (first | exact (Kd.R_reads' HO575.out).2.2 | (with_reducible refine Kd.C_alloc ?_ _) | (with_reducible refine Kd.C_drewN ?_ _) | (with_reducible refine Kd.C_drew ?_))); (case side4 => exact (Kd.R_reads' HO575.out).2.1); rintro e w' ⟨rfl, ⟨nd, rfl⟩⟩; (try first | exact ⟨rfl, _, World.drewN_drewN _ _ _⟩ | exact ⟨rfl, _, Eq.trans (World.drewN_drewN _ _ _) (congrArg (World.drewN _) (Nat.add_assoc _ _ _))⟩)))); try go_wp2_with (first | (go_at_call 18; (with_reducible refine (althingref05_Keys.calls k2 a0_0 a0_1 a0_2 a0_3 a0_4 a0_5 _ _ l0_6 _ _ l0_7 a0_8 t573 _ ?side1 ?side2 ?side3 ?side4 A98.out).mono ?_); (case side1 => repeat (first | exact (Kd.V_reads' HO_567006.out).2.2 | (with_reducible refine Kd.C_alloc ?_ _) | (with_reducible refine Kd.C_drewN ?_ _) | (with_reducible refine Kd.C_drew ?_))); (case side2 => exact (Kd.V_reads' HO_567006.out).2.1); (case side3 => repeat (first | exact (Kd.V_reads' HO_567007.out).2.2 | (with_reducible refine Kd.C_alloc ?_ _) | (with_reducible refine Kd.C_drewN ?_ _) | (with_reducible refine Kd.C_drew ?_))); (case side4 => exact (Kd.V_reads' HO_567007.out).2.1); rintro e w103 ⟨v574, rfl, ho0, hb⟩; have n0_ := Aside0.mk (Kd.R_elder' (kr_ HO_7.out) (Kd.R_base ho0) hb); have n1_ := Aside0.mk (Kd.V_elder' (kv_ HO_567006.out) (Kd.R_base ho0) hb); have n2_ := Aside0.mk (Kd.V_elder' (kv_ HO_567007.out) (Kd.R_base ho0) hb); have n3_ := Aside0.mk (Kd.R_lower (Kd.R_new' (Kd.R_newM (M := fun k_ => (w.heap.size ≤ k_)) ho0 (below_size (by repeat (first | (with_reducible first | exact HB.out | apply below_alloc | apply pw_below_drewN | apply below_drew1 | refine below_set ?_ GE566.out) | exact HB.out))) (fun k_ h_ => h_)) (Kd.R_lt (kr_ HO_7.out))) (below_size (by repeat (first | (with_reducible first | exact HB.out | apply below_alloc | apply pw_below_drewN | apply below_drew1 | refine below_set ?_ GE566.out) | exact HB.out)))); have n4_ := Aside0.mk (blk_below (kb_ BK566.out) hb); have n5_ := Aside0.mk (below_step (by repeat (first | (with_reducible first | exact HB.out | apply below_alloc | apply pw_below_drewN | apply below_drew1 | refine below_set ?_ GE566.out) | exact HB.out)) hb); clear HO_7; clear HO_567006; clear HO_567007; clear BK566; clear HB; have HO_7 := n0_; have HO_567006 := n1_; have HO_567007 := n2_; have HO575 := n3_; have BK566 := n4_; have HB := n5_; clear n0_ n1_ n2_ n3_ n4_ n5_; (try clear hb); (try clear hb2); (try clear hk); (try clear hi); (try clear ho0); obtain ⟨Ao104, co104, eo104⟩ := Kd.R_slice HO_7.out; subst eo104; obtain ⟨Ao105, co105, eo105⟩ := Kd.R_slice HO575.out; subst eo105) | (go_at_call 19; (with_reducible refine (althinglaw05_same.calls k2 _ _ x7_2 _ _ t573 true _ ?side1 ?side2 ?side3 ?side4 A99.out).mono ?_); (case side1 => repeat (first | exact (Kd.R_reads' HO_7.out).2.2 | (with_reducible refine Kd.C_alloc ?_ _) | (with_reducible refine Kd.C_drewN ?_ _) | (with_reducible refine Kd.C_drew ?_))); (case side2 => exact (Kd.R_reads' HO_7.out).2.1); (case side3 => repeat (first | exact (Kd.R_reads' HO575.out).2.2 | (with_reducible refine Kd.C_alloc ?_ _) | (with_reducible refine Kd.C_drewN ?_ _) | (with_reducible refine Kd.C_drew ?_))); (case side4 => exact (Kd.R_reads' HO575.out).2.1); rintro e w' ⟨rfl, ⟨nd, rfl⟩⟩; (try first | exact ⟨rfl, _, World.drewN_drewN _ _ _⟩ | exact ⟨rfl, _, Eq.trans (World.drewN_drewN _ _ _) (congrArg (World.drewN _) (Nat.add_assoc _ _ _))⟩)) | (go_at_call 9; (with_reducible refine (althinglaw05_awake.calls k2  t577 _ A101.out).mono ?_); rintro e w106 ⟨rfl, hb⟩; have n0_ := Aside0.mk (Kd.R_below (kr_ HO_7.out) hb); have n1_ := Aside0.mk (Kd.V_below (kv_ HO_567006.out) hb); have n2_ := Aside0.mk (Kd.V_below (kv_ HO_567007.out) hb); have n3_ := Aside0.mk (Kd.R_below (kr_ HO575.out) hb); have n4_ := Aside0.mk (blk_below (kb_ BK566.out) hb); have n5_ := Aside0.mk (below_step (by repeat (first | (with_reducible first | exact HB.out | apply below_alloc | apply pw_below_drewN | apply below_drew1 | refine below_set ?_ GE566.out) | exact HB.out)) hb); clear HO_7; clear HO_567006; clear HO_567007; clear HO575; clear BK566; clear HB; have HO_7 := n0_; have HO_567006 := n1_; have HO_567007 := n2_; have HO575 := n3_; have BK566 := n4_; have HB := n5_; clear n0_ n1_ n2_ n3_ n4_ n5_; (try clear hb); (try clear hb2); (try clear hk); (try clear hi))))
               go_ret
               exact ⟨by first | rfl | (simp [errW_none, errW_some] <;> rfl) | (simp [*, errW_none, errW_some] <;> rfl), by repeat (first | (with_reducible first | exact HB.out | apply below_alloc | apply pw_below_drewN | apply below_drew1 | refine below_set ?_ GE566.out) | exact HB.out)⟩
             · replace c100 := Bool.eq_false_iff.mpr c100
               subst c100
               rw [if_neg (show ¬ (false = true) by decide)] at H
               exact absurd H (by simp)
           · rw [if_neg c97] at H
             exact absurd H (by simp)
         · rw [if_neg c96] at H
           exact absurd H (by simp)
end Go.Proofs.Ytnjeeedndnfglaa.X
end
section
namespace Go.Proofs.Ytnjeeedndnfglaa.Strs
open Go.RowKit Go.Proofs.YtnjeeedndnfglaaW.PrintWords Go.Proofs.YtnjeeedndnfglaaW.PrintLast Go.Proofs.YtnjeeedndnfglaaW.PrintMore Go.Proofs.Ytnjeeedndnfglaa.X
set_option linter.unusedSimpArgs false
set_option linter.unusedVariables false
theorem Ev.const {α : Type} {g : Option α} {r : α} (h : g = some r) : Ev (fun _ => g) r := ⟨0, fun _ _ => h⟩
theorem w1 (i : Nat) (h : i ≤ 100000000) : wrap64 ((i : Int) + 1) = ((i + 1 : Nat) : Int) := by unfold wrap64; omega
theorem rd_at (l : List ByteArray) (i : Nat) (h : i < l.length) : rdOf ByteArray.empty l (i : Int) = l[i] := rd_el l i h
theorem few_big {l : List ByteArray} (h : few l) : big l := ⟨by have := h.1; omega, fun x hx => by have := h.2 x hx; omega⟩
theorem dd_len : ∀ (l acc : List ByteArray), (dd acc l).length ≤ acc.length + l.length
  | [], acc => by simp [dd]
  | x :: l, acc => by
    unfold dd
    split
    · have := dd_len l acc; simp only [List.length_cons]; omega
    · have := dd_len l (acc ++ [x]); simp only [List.length_append, List.length_cons, List.length_nil] at *; omega
theorem joinB_len (a b : List ByteArray) : (joinB a b).length ≤ a.length + b.length := by
  unfold joinB
  rw [srt_length]
  have := dd_len (a ++ b) []
  simpa using this
theorem joinB_mem {a b : List ByteArray} {x : ByteArray} (h : x ∈ joinB a b) : x ∈ a ∨ x ∈ b := ((joinB_joined a b).2 x).1 h
theorem join_f {a b : List ByteArray} (ha : big a) (hb : big b) : keys_Join.f a b = some (joinB a b) := by unfold keys_Join.f; rw [if_pos ⟨ha, hb⟩]
theorem less_blt (x y : ByteArray) : Op.bytesLess x.toList y.toList = true ↔ blt x y := by
  rw [toList_eq, toList_eq, bytesLess_eq, decide_eq_true_eq]
  exact Iff.rfl
end Go.Proofs.Ytnjeeedndnfglaa.Strs
end
section
namespace Go.Proofs.Ytnjeeedndnfglaa.Strs
open Go.RowKit Go.Proofs.Ytnjeeedndnfglaa.Keys Go.Proofs.YtnjeeedndnfglaaW.PrintWords Go.Proofs.YtnjeeedndnfglaaW.PrintLast Go.Proofs.YtnjeeedndnfglaaW.PrintMore Go.Proofs.Ytnjeeedndnfglaa.X
set_option linter.unusedSimpArgs false
set_option linter.unusedVariables false
/-- A loop that goes on while what it looks at is fine. -/
theorem Ev.scan {F : Nat → Int → Option Bool} (n : Nat) (ok : Nat → Bool) (fin : Bool)
    (h1 : ∀ i, i < n → ok i = true → ∀ r, Ev (fun k => F k ((i + 1 : Nat) : Int)) r → Ev (fun k => F k (i : Int)) r)
    (h2 : ∀ i, i < n → ok i = false → Ev (fun k => F k (i : Int)) false) (h3 : Ev (fun k => F k (n : Int)) fin) : Ev (fun k => F k 0) ((List.range n).all ok && fin) := by
  have h : ∀ d i, i + d = n → Ev (fun k => F k (i : Int)) ((List.range' i d).all ok && fin) := by
    intro d
    induction d with
    | zero =>
      intro i hi
      obtain rfl : i = n := by omega
      simpa using h3
    | succ d ih =>
      intro i hi
      rw [List.range'_succ, List.all_cons]
      cases hk : ok i with
      | true => simpa using h1 i (by omega) hk _ (ih (i + 1) (by omega))
      | false => simpa using h2 i (by omega) hk
  have := h n 0 (by omega)
  rwa [← List.range_eq_range'] at this
def okAt (l : List ByteArray) (i : Nat) : Bool := okKey (l.getD i ByteArray.empty) && (decide (i = 0) || decide (blt (l.getD (i - 1) ByteArray.empty) (l.getD i ByteArray.empty)))
def rightsB (l : List ByteArray) : Bool := (List.range l.length).all (okAt l) && decide (l.length ≤ 8)
theorem getD_at (l : List ByteArray) (i : Nat) (h : i < l.length) : l.getD i ByteArray.empty = l[i] := by simp [List.getD_eq_getElem?_getD, h]
theorem rightsB_iff (l : List ByteArray) : rightsB l = true ↔ (∀ x ∈ l, okKey x = true) ∧ l.Pairwise blt ∧ l.length ≤ 8 := by
  unfold rightsB
  rw [Bool.and_eq_true, List.all_eq_true, decide_eq_true_eq]
  constructor
  · rintro ⟨h, h8⟩
    have h' : ∀ i, i < l.length → okAt l i = true := fun i hi => h i (by simpa using hi)
    refine ⟨fun x hx => ?_, ?_, h8⟩
    · obtain ⟨i, hi, rfl⟩ := List.getElem_of_mem hx
      have := h' i hi
      unfold okAt at this
      rw [Bool.and_eq_true, getD_at l i hi] at this
      exact this.1
    · have hadj : ∀ i, (hi : i + 1 < l.length) → blt l[i] l[i + 1] := fun i hi => by
        have := h' (i + 1) hi
        unfold okAt at this
        rw [Bool.and_eq_true, getD_at l (i + 1) hi, show i + 1 - 1 = i by omega, getD_at l i (by omega), Bool.or_eq_true, decide_eq_true_eq, decide_eq_true_eq] at this
        rcases this.2 with h0 | h0
        · omega
        · exact h0
      rw [List.pairwise_iff_getElem]
      intro i j hi hj hij
      obtain ⟨d, rfl⟩ : ∃ d, j = i + 1 + d := ⟨j - i - 1, by omega⟩
      clear hij
      induction d with
      | zero => exact hadj i hj
      | succ d ih => exact blt_trans _ _ _ (ih (by omega)) (hadj (i + 1 + d) hj)
  · rintro ⟨hok, hp, h8⟩
    refine ⟨fun i hi => ?_, h8⟩
    have hil : i < l.length := by simpa using hi
    unfold okAt
    rw [Bool.and_eq_true, getD_at l i hil, Bool.or_eq_true, decide_eq_true_eq, decide_eq_true_eq]
    refine ⟨hok _ (List.getElem_mem hil), ?_⟩
    by_cases h0 : i = 0
    · exact .inl h0
    · right
      rw [getD_at l (i - 1) (by omega)]
      exact (List.pairwise_iff_getElem.1 hp) (i - 1) i (by omega) hil (by omega)
theorem right_f (x : ByteArray) : keys_Right.f x = some (okKey x) := by
  unfold keys_Right.f okKey
  by_cases h : (x.size : Int) ≥ 1
  · rw [if_pos h]; congr 1; rw [decide_eq_decide]; omega
  · rw [if_neg h]; congr 1; symm; rw [decide_eq_false_iff_not]; omega
theorem rd_getD (l : List ByteArray) (i : Nat) : rdOf ByteArray.empty l (i : Int) = l.getD i ByteArray.empty := by unfold rdOf; rw [Int.toNat_natCast]
theorem wm1 (i : Nat) (h : i ≤ 100000000) (h0 : i ≠ 0) : wrap64 ((i : Int) - 1) = ((i - 1 : Nat) : Int) := by unfold wrap64; omega
theorem rights_is (l : List ByteArray) (hl : l.length ≤ 2000) : Ev (fun k => keys_Rights.f k l) (rightsB l) := by
  refine Ev.scan (F := fun k i => keys_Rights.l0 k l l (l.length : Int) i) l.length (okAt l) _ (fun i hi hok r hr => ?_) (fun i hi hok => ?_) ?_
  · refine Ev.step (fun k => ?_) hr
    simp only [keys_Rights.l0]
    unfold okAt at hok
    rw [Bool.and_eq_true] at hok
    rw [if_pos (by omega), if_pos (by omega), if_pos (by omega), right_f, Option.bind_some, rd_getD, hok.1, if_pos rfl]
    by_cases h0 : i = 0
    · rw [if_neg (by omega), w1 i (by omega)]
    · have hb : blt (l.getD (i - 1) ByteArray.empty) (l.getD i ByteArray.empty) := by simpa [h0] using hok.2
      rw [if_pos (by omega), wm1 i (by omega) h0, if_pos (by omega), if_pos (by omega), rd_getD, if_pos ((less_blt _ _).2 hb), w1 i (by omega)]
  · refine Ev.step (f := fun _ => some false) (fun k => ?_) (Ev.const rfl)
    simp only [keys_Rights.l0]
    unfold okAt at hok
    rw [if_pos (by omega), if_pos (by omega), if_pos (by omega), right_f, Option.bind_some, rd_getD]
    cases ho : okKey (l.getD i ByteArray.empty) with
    | false => rw [if_neg (by simp)]
    | true =>
      rw [ho, Bool.true_and, Bool.or_eq_false_iff, decide_eq_false_iff_not, decide_eq_false_iff_not] at hok
      rw [if_pos rfl, if_pos (by omega), wm1 i (by omega) hok.1, if_pos (by omega), if_pos (by omega), rd_getD, if_neg (fun e => hok.2 ((less_blt _ _).1 e))]
  · refine Ev.step (f := fun _ => some (decide ((l.length : Int) ≤ 8))) (fun k => ?_) (Ev.const ?_)
    · simp only [keys_Rights.l0]
      rw [if_neg (by omega)]
    · congr 1; rw [decide_eq_decide]; omega
end Go.Proofs.Ytnjeeedndnfglaa.Strs
end
section
namespace Go.Proofs.Ytnjeeedndnfglaa.Strs
open Go.RowKit Go.Proofs.Ytnjeeedndnfglaa.Keys Go.Proofs.YtnjeeedndnfglaaW.PrintWords Go.Proofs.YtnjeeedndnfglaaW.PrintLast Go.Proofs.YtnjeeedndnfglaaW.PrintMore Go.Proofs.Ytnjeeedndnfglaa.X
set_option linter.unusedSimpArgs false
set_option linter.unusedVariables false
theorem Ev.bindT {β : Type} {g : Nat → Option Bool} {f1 f2 : Nat → Option β} {r : β} (h : Ev g true) (k : Ev f1 r) : Ev (fun n => (g n).bind fun t => if t = true then f1 n else f2 n) r := Ev.bind h (Ev.congr (fun _ => if_pos rfl) k)
theorem Ev.bindF {β : Type} {g : Nat → Option Bool} {f1 f2 : Nat → Option β} {r : β} (h : Ev g false) (k : Ev f2 r) : Ev (fun n => (g n).bind fun t => if t = true then f1 n else f2 n) r := Ev.bind h (Ev.congr (fun _ => if_neg (by simp)) k)
abbrev Rd := S38
abbrev Wr := S40
abbrev Cm := S29
def rk (r : List Rd) : List ByteArray := r.map (·.f0)
def wk (w : List Wr) : List ByteArray := w.map (·.f0)
theorem rdR (r : List Rd) (i : Nat) (h : i < r.length) : rd_T38 r (i : Int) = r[i] := by unfold rd_T38; rw [Int.toNat_natCast]; simp [List.getD_eq_getElem?_getD, h]
theorem rdW (w : List Wr) (i : Nat) (h : i < w.length) : rd_T40 w (i : Int) = w[i] := by unfold rd_T40; rw [Int.toNat_natCast]; simp [List.getD_eq_getElem?_getD, h]
theorem rdC (l : List Cm) (i : Nat) (h : i < l.length) : rd_T29 l (i : Int) = l[i] := by unfold rd_T29; rw [Int.toNat_natCast]; simp [List.getD_eq_getElem?_getD, h]
/-- A command that is gone through. -/
def small (r : List Rd) (w : List Wr) : Prop := r.length ≤ 20 ∧ w.length ≤ 20 ∧ (∀ x ∈ r, x.f0.size ≤ 100) ∧ ∀ x ∈ w, x.f0.size ≤ 100 ∧ x.f1.size ≤ 100
theorem rk_few {r : List Rd} {w : List Wr} (h : small r w) : few (rk r) := ⟨by unfold rk; rw [List.length_map]; have := h.1; omega, fun x hx => by
  unfold rk at hx
  obtain ⟨y, hy, rfl⟩ := List.mem_map.1 hx
  exact h.2.2.1 y hy⟩
theorem wk_few {r : List Rd} {w : List Wr} (h : small r w) : few (wk w) := ⟨by unfold wk; rw [List.length_map]; have := h.2.1; omega, fun x hx => by
  unfold wk at hx
  obtain ⟨y, hy, rfl⟩ := List.mem_map.1 hx
  exact (h.2.2.2 y hy).1⟩
theorem read_l0 (r : List Rd) (hl : r.length ≤ 2000) : ∀ d i, i + d = r.length → Ev (fun k => command_read.l0 k (rk (r.take i)) r (r.length : Int) (i : Int)) (rk r)
  | 0, i, h => by
    refine Ev.step (f := fun _ => some (rk (r.take i))) (fun k => ?_) (Ev.const ?_)
    · simp only [command_read.l0]; rw [if_neg (by omega)]
    · rw [show i = r.length by omega, List.take_length]
  | d + 1, i, h => by
    have hi : i < r.length := by omega
    refine Ev.step (fun k => ?_) (read_l0 r hl d (i + 1) (by omega))
    simp only [command_read.l0]
    rw [if_pos (by omega), if_pos (by omega), if_pos (by omega), if_pos (by unfold rk; rw [List.length_map, List.length_take]; omega), rdR r i hi, w1 i (by omega), List.take_succ_eq_append_getElem hi]
    unfold rk
    rw [List.map_append]; rfl
theorem written_l0 (r : List Wr) (hl : r.length ≤ 2000) : ∀ d i, i + d = r.length → Ev (fun k => command_written.l0 k (wk (r.take i)) r (r.length : Int) (i : Int)) (wk r)
  | 0, i, h => by
    refine Ev.step (f := fun _ => some (wk (r.take i))) (fun k => ?_) (Ev.const ?_)
    · simp only [command_written.l0]; rw [if_neg (by omega)]
    · rw [show i = r.length by omega, List.take_length]
  | d + 1, i, h => by
    have hi : i < r.length := by omega
    refine Ev.step (fun k => ?_) (written_l0 r hl d (i + 1) (by omega))
    simp only [command_written.l0]
    rw [if_pos (by omega), if_pos (by omega), if_pos (by omega), if_pos (by unfold wk; rw [List.length_map, List.length_take]; omega), rdW r i hi, w1 i (by omega), List.take_succ_eq_append_getElem hi]
    unfold wk
    rw [List.map_append]; rfl
section
variable (a b c d e s : Int) (r : List Rd) (w : List Wr) (m : Bool) (a' b' c' d' e' s' : Int) (r' : List Rd) (w' : List Wr) (m' : Bool)
theorem read_is (hl : r.length ≤ 2000) : Ev (fun k => command_read.f k a b c d e s r w m) (rk r) := read_l0 r hl r.length 0 (by omega)
theorem written_is (hl : w.length ≤ 2000) : Ev (fun k => command_written.f k a b c d e s r w m) (wk w) := written_l0 w hl w.length 0 (by omega)
/-- A command's keys. -/
def keysB : List ByteArray := joinB (rk r) (wk w)
theorem keys_is (h : small r w) : Ev (fun k => command_Keys.f k a b c d e s r w m) (keysB r w) := by
  refine Ev.bind (read_is a b c d e s r w m (by have := h.1; omega)) (Ev.bind (written_is a b c d e s r w m (by have := h.2.1; omega)) (Ev.bind (Ev.const (join_f (few_big (rk_few h)) (few_big (wk_few h)))) (Ev.const rfl)))
/-- Do two commands interfere? -/
def interB (a b c : Int) (r : List Rd) (w : List Wr) (a' b' c' : Int) (r' : List Rd) (w' : List Wr) : Bool := !(decide (a = 0) || decide (a' = 0)) && ((b == b' && (c == c')) || meetB (keysB r w) (keysB r' w'))
theorem inter_j0 (h : small r w) (h' : small r' w') (x : Bool) : Ev (fun k => command_Interfere.j0 k x a b c d e s r w m a' b' c' d' e' s' r' w' m') (!x && ((b == b' && (c == c')) || meetB (keysB r w) (keysB r' w'))) := by
  cases x with
  | true =>
    refine Ev.step (f := fun _ => some false) (fun k => ?_) (Ev.const rfl)
    simp only [command_Interfere.j0]; rw [if_pos trivial]
  | false =>
    cases hx : (b == b' && (c == c')) with
    | true =>
      refine Ev.step (f := fun _ => some true) (fun k => ?_) (Ev.const rfl)
      simp only [command_Interfere.j0]; rw [if_neg (by simp), if_pos hx]
    | false =>
      have hM : Ev (fun k => (command_Keys.f k a b c d e s r w m).bind fun t130 => (command_Keys.f k a' b' c' d' e' s' r' w' m').bind fun t133 => (keys_Meet.f t130 t133).bind fun t136 => some t136) (meetB (keysB r w) (keysB r' w')) := Ev.bind (keys_is a b c d e s r w m h) (Ev.bind (keys_is a' b' c' d' e' s' r' w' m' h') (Ev.const rfl))
      rw [Bool.not_false, Bool.true_and, Bool.false_or]
      refine Ev.step (fun k => ?_) hM
      simp only [command_Interfere.j0]; rw [if_neg (by simp), if_neg (by simp [hx])]
theorem inter_is (h : small r w) (h' : small r' w') : Ev (fun k => command_Interfere.f k a b c d e s r w m a' b' c' d' e' s' r' w' m') (interB a b c r w a' b' c' r' w') := by
  unfold interB command_Interfere.f
  by_cases ha : a = 0
  · simp only [ha, ↓reduceIte, decide_true, Bool.true_or]
    exact inter_j0 0 b c d e s r w m a' b' c' d' e' s' r' w' m' h h' true
  · simp only [ha, ↓reduceIte, decide_false, Bool.false_or]
    exact inter_j0 a b c d e s r w m a' b' c' d' e' s' r' w' m' h h' (a' == 0)
end
theorem eqR_l0 (r : List Rd) (hl : r.length ≤ 2000) : ∀ d i, i + d = r.length → Ev (fun k => api_Read.l0 k r r (r.length : Int) (i : Int)) true
  | 0, i, h => by
    refine Ev.step (f := fun _ => some true) (fun k => ?_) (Ev.const rfl)
    simp only [api_Read.l0]; rw [if_neg (by omega)]
  | d + 1, i, h => by
    refine Ev.step (fun k => ?_) (eqR_l0 r hl d (i + 1) (by omega))
    simp only [api_Read.l0]
    rw [if_pos (by omega), if_pos (by omega), if_pos (by omega), if_pos (by omega), if_neg (by simp), w1 i (by omega)]
theorem eqW_l0 (r : List Wr) (hl : r.length ≤ 2000) : ∀ d i, i + d = r.length → Ev (fun k => api_Write.l0 k r r (r.length : Int) (i : Int)) true
  | 0, i, h => by
    refine Ev.step (f := fun _ => some true) (fun k => ?_) (Ev.const rfl)
    simp only [api_Write.l0]; rw [if_neg (by omega)]
  | d + 1, i, h => by
    refine Ev.step (fun k => ?_) (eqW_l0 r hl d (i + 1) (by omega))
    simp only [api_Write.l0]
    rw [if_pos (by omega), if_pos (by omega), if_pos (by omega), if_pos (by omega), if_neg (by simp), w1 i (by omega)]
theorem eqR_self (r : List Rd) (hl : r.length ≤ 2000) : Ev (fun k => api_Read.f k r r) true := Ev.congr (f := fun k => api_Read.l0 k r r (r.length : Int) ((0 : Nat) : Int)) (fun k => by unfold api_Read.f; rw [if_pos rfl]; rfl) (eqR_l0 r hl r.length 0 (by omega))
theorem eqW_self (r : List Wr) (hl : r.length ≤ 2000) : Ev (fun k => api_Write.f k r r) true := Ev.congr (f := fun k => api_Write.l0 k r r (r.length : Int) ((0 : Nat) : Int)) (fun k => by unfold api_Write.f; rw [if_pos rfl]; rfl) (eqW_l0 r hl r.length 0 (by omega))
theorem eqR_nil (r : List Rd) (hl : r.length ≤ 2000) : Ev (fun k => api_Read.f k r []) (decide (r = [])) := by
  cases r with
  | nil => exact eqR_self [] (by simp)
  | cons x l => exact Ev.congr (f := fun _ => some false) (fun k => by unfold api_Read.f; rw [if_neg (by simp; omega)]) (Ev.const (by simp))
theorem eqW_nil (r : List Wr) (hl : r.length ≤ 2000) : Ev (fun k => api_Write.f k r []) (decide (r = [])) := by
  cases r with
  | nil => exact eqW_self [] (by simp)
  | cons x l => exact Ev.congr (f := fun _ => some false) (fun k => by unfold api_Write.f; rw [if_neg (by simp; omega)]) (Ev.const (by simp))
section
variable (a b c d e s : Int) (r : List Rd) (w : List Wr) (m : Bool)
theorem same_self (h : small r w) : Ev (fun k => command_Same.f k a b c d e s r w m a b c d e s r w m) true := by
  unfold command_Same.f
  simp only [BEq.rfl, Bool.and_self, ↓reduceIte]
  exact Ev.bindT (eqR_self r (by have := h.1; omega)) (Ev.bind (eqW_self w (by have := h.2.1; omega)) (Ev.const rfl))
/-- Is a command the zero one? -/
def zeroB : Bool := (b == 0 && (c == 0)) && (d == 0 && (e == 0)) && decide (s = 0) && !m && decide (r = []) && decide (w = [])
theorem same_zero (h : small r w) : Ev (fun k => command_Same.f k 0 b c d e s r w m 0 0 0 0 0 0 [] [] false) (zeroB b c d e s r w m) := by
  unfold zeroB command_Same.f
  cases h1 : (b == 0 && (c == 0)) with
  | false => simp only [Bool.false_eq_true, ↓reduceIte, Bool.false_and]; exact Ev.const rfl
  | true =>
    cases h2 : (d == 0 && (e == 0)) with
    | false => simp only [Bool.false_eq_true, ↓reduceIte, Bool.false_and, Bool.and_false]; exact Ev.const rfl
    | true =>
      by_cases h3 : s = 0
      · cases m with
        | true => simp only [h3, ↓reduceIte, Bool.true_and, decide_true, Bool.not_true, Bool.false_and]; exact Ev.const (by simp)
        | false =>
          simp only [h3, ↓reduceIte, Bool.true_and, decide_true, Bool.not_false, BEq.rfl]
          cases h4 : decide (r = []) with
          | false => exact Ev.bindF (h4 ▸ eqR_nil r (by have := h.1; omega)) (Ev.const rfl)
          | true => exact Ev.bindT (h4 ▸ eqR_nil r (by have := h.1; omega)) (Ev.bind (eqW_nil w (by have := h.2.1; omega)) (Ev.const (by simp)))
      · simp only [h3, ↓reduceIte, decide_false, Bool.and_false, Bool.false_and]; exact Ev.const rfl
/-- A transaction's name that may be. -/
def txnB (b c : Int) : Bool := decide (0 ≤ b ∧ b ≤ 3) && decide (1 ≤ c ∧ c ≤ 1099511627776)
theorem stamp_RightTxn_val (b c : Int) : stamp_RightTxn.f b c = some (txnB b c) := by
  unfold stamp_RightTxn.f stamp_within_int.f txnB
  by_cases h1 : b ≥ 0 <;> by_cases h2 : b ≤ 3 <;> by_cases h3 : c ≥ 1 <;> by_cases h4 : c ≤ 1099511627776 <;> simp [h1, h2, h3, h4] <;> omega
/-- Is a read older than the command? -/
def oldB (d e : Int) (x : Rd) : Bool := stampB x.f1.f0 x.f1.f1 && decide (ordI x.f1.f0 x.f1.f1 d e < 0)
def okR (d e : Int) (r : List Rd) (i : Nat) : Bool := oldB d e (rd_T38 r (i : Int))
def okW (w : List Wr) (i : Nat) : Bool := decide ((rd_T40 w (i : Int)).f1.size ≤ 8)
def tailB : Bool := (List.range r.length).all (okR d e r) && ((List.range w.length).all (okW w) && (rightsB (rk r) && rightsB (wk w)))
def preB : Bool := txnB b c && stampB d e && decide (1 ≤ d) && decide (e = b) && decide (1 ≤ s) && decide (s ≤ 15) && decide (r.length + w.length ≠ 0) && !(m && (a == 1))
/-- May a command be? -/
def rightB : Bool := if a = 0 then zeroB b c d e s r w m else if a = 1 ∨ a = 2 then preB a b c d e s r w m && tailB d e r w else false
theorem right_l1 (h : small r w) : Ev (fun k => command_Right.l1 k w (w.length : Int) 0 a b c d e s r w m) ((List.range w.length).all (okW w) && (rightsB (rk r) && rightsB (wk w))) := by
  have hw := h.2.1
  have hr := h.1
  refine Ev.scan (F := fun k i => command_Right.l1 k w (w.length : Int) i a b c d e s r w m) w.length (okW w) _ (fun i hi hok q hq => ?_) (fun i hi hok => ?_) ?_
  · unfold okW at hok
    rw [decide_eq_true_eq] at hok
    refine Ev.step (fun k => ?_) hq
    simp only [command_Right.l1]
    rw [if_pos (by omega), if_pos (by omega), if_pos (by omega), if_neg (by omega), w1 i (by omega)]
  · unfold okW at hok
    rw [decide_eq_false_iff_not] at hok
    refine Ev.step (f := fun _ => some false) (fun k => ?_) (Ev.const rfl)
    simp only [command_Right.l1]
    rw [if_pos (by omega), if_pos (by omega), if_pos (by omega), if_pos (by omega)]
  · refine Ev.step (f := fun k => (command_read.f k a b c d e s r w m).bind fun t166 => (keys_Rights.f k t166).bind fun t169 => if t169 = true then (command_written.f k a b c d e s r w m).bind fun t170 => (keys_Rights.f k t170).bind fun t173 => some t173 else some false) (fun k => ?_) (Ev.bind (read_is a b c d e s r w m (by omega)) ?_)
    · simp only [command_Right.l1]; rw [if_neg (by omega)]
    · have hq := rights_is (rk r) (by have := (rk_few h).1; omega)
      cases hR : rightsB (rk r) with
      | false => exact Ev.bindF (hR ▸ hq) (Ev.const rfl)
      | true =>
        refine Ev.bindT (hR ▸ hq) (Ev.bind (written_is a b c d e s r w m (by omega)) (Ev.bind (rights_is (wk w) (by have := (wk_few h).1; omega)) (Ev.const ?_)))
        rw [Bool.true_and]
theorem right_l0 (h : small r w) : Ev (fun k => command_Right.l0 k r (r.length : Int) 0 a b c d e s r w m) (tailB d e r w) := by
  have hr := h.1
  refine Ev.scan (F := fun k i => command_Right.l0 k r (r.length : Int) i a b c d e s r w m) r.length (okR d e r) _ (fun i hi hok q hq => ?_) (fun i hi hok => ?_) ?_
  · refine Ev.step (fun k => ?_) hq
    simp only [command_Right.l0]
    rw [if_pos (by omega), if_pos (by omega), if_pos (by omega)]
    unfold okR oldB at hok
    simp only [command_Right_1.f, Option.bind_some]
    rw [hok, if_pos rfl, w1 i (by omega)]
  · refine Ev.step (f := fun _ => some false) (fun k => ?_) (Ev.const rfl)
    simp only [command_Right.l0]
    rw [if_pos (by omega), if_pos (by omega), if_pos (by omega)]
    unfold okR oldB at hok
    simp only [command_Right_1.f, Option.bind_some]
    rw [hok, if_neg (by simp)]
  · refine Ev.step (fun k => ?_) (right_l1 a b c d e s r w m h)
    simp only [command_Right.l0]; rw [if_neg (by omega)]
theorem right_j1 (h : small r w) (x : Bool) : Ev (fun k => command_Right.j1 k x a b c d e s r w m) (!x && tailB d e r w) := by
  cases x with
  | true =>
    refine Ev.step (f := fun _ => some false) (fun k => ?_) (Ev.const (by simp))
    simp only [command_Right.j1]; rw [if_pos trivial]
  | false =>
    refine Ev.step (fun k => ?_) (by simpa using right_l0 a b c d e s r w m h)
    simp only [command_Right.j1]; rw [if_neg (by simp)]
theorem right_j0 (h : small r w) : Ev (fun k => command_Right.j0 k a b c d e s r w m) (preB a b c d e s r w m && tailB d e r w) := by
  have hr := h.1
  have hw := h.2.1
  refine Ev.step (f := fun k => command_Right.j1 k (!preB a b c d e s r w m) a b c d e s r w m) (fun k => ?_) (by simpa using right_j1 a b c d e s r w m h (!preB a b c d e s r w m))
  simp only [command_Right.j0, stamp_RightTxn_val, stamp_RightStamp_val, Option.bind_some]
  rw [show wrap64 ((r.length : Int) + (w.length : Int)) = ((r.length + w.length : Nat) : Int) by unfold wrap64; omega]
  unfold preB
  cases h1 : txnB b c with
  | false => rw [if_neg (by simp)]; simp
  | true =>
    rw [if_pos rfl]
    cases h2 : stampB d e with
    | false => rw [if_neg (by simp)]; simp
    | true =>
      rw [if_pos rfl]
      by_cases h3 : d < 1
      · rw [if_pos h3]; simp [show ¬ 1 ≤ d by omega]
      · rw [if_neg h3]
        by_cases h4 : e = b
        · rw [if_pos h4]
          by_cases h5 : s < 1
          · rw [if_pos h5]; simp [show ¬ 1 ≤ s by omega]
          · rw [if_neg h5]
            by_cases h6 : s > 15
            · rw [if_pos h6]; simp [show ¬ s ≤ 15 by omega]
            · rw [if_neg h6]
              by_cases h7 : r.length + w.length = 0
              · rw [if_pos (by omega)]; simp [h7]
              · rw [if_neg (by omega), decide_eq_true (show 1 ≤ d by omega), decide_eq_true h4, decide_eq_true (show 1 ≤ s by omega), decide_eq_true (show s ≤ 15 by omega), decide_eq_true (show r.length + w.length ≠ 0 from h7)]
                cases m with
                | true => rw [if_pos rfl]; simp
                | false => rw [if_neg (by simp)]; simp
        · rw [if_neg h4]; simp [h4]
theorem right_is (h : small r w) : Ev (fun k => command_Right.f k a b c d e s r w m) (rightB a b c d e s r w m) := by
  unfold rightB command_Right.f
  by_cases h0 : a = 0
  · simp only [h0, ↓reduceIte]
    exact Ev.bind (same_zero b c d e s r w m h) (Ev.const rfl)
  · by_cases h1 : a = 1
    · simp only [h0, h1, ↓reduceIte, true_or, Int.reduceEq]
      exact right_j0 1 b c d e s r w m h
    · by_cases h2 : a = 2
      · simp only [h0, h1, h2, ↓reduceIte, or_true, Int.reduceEq]
        exact right_j0 2 b c d e s r w m h
      · simp only [h0, h1, h2, ↓reduceIte, or_self]
        exact Ev.const rfl
end
end Go.Proofs.Ytnjeeedndnfglaa.Strs
end
section
namespace Go.Proofs.Ytnjeeedndnfglaa.Strs
open Go.RowKit Go.Proofs.Ytnjeeedndnfglaa.Keys Go.Proofs.YtnjeeedndnfglaaW.PrintWords Go.Proofs.YtnjeeedndnfglaaW.PrintLast Go.Proofs.YtnjeeedndnfglaaW.PrintMore Go.Proofs.Ytnjeeedndnfglaa.X
set_option linter.unusedSimpArgs false
set_option linter.unusedVariables false
section
variable (l : List Cm) (n j : Int) (a b c d e s : Int) (r : List Rd) (w : List Wr) (m : Bool) (P : Prop)
theorem few_j4 (hn : ∃ q, Ev (fun k => althinglaw05_Few.l0 k l n (wrap64 (j + 1))) q ∧ (q = true → P)) (i : Int) : ∃ q, Ev (fun k => althinglaw05_Few.j4 k i l n j false a b c d e s r w m) q ∧ (q = true → P ∧ r.length ≤ 20 ∧ w.length ≤ 20) := by
  by_cases h1 : (r.length : Int) > 20
  · refine ⟨false, Ev.step (f := fun _ => some false) (fun k => ?_) (Ev.const rfl), fun e => by cases e⟩
    simp only [althinglaw05_Few.j4]; rw [if_neg (by simp), if_pos h1]
  · by_cases h2 : (w.length : Int) > 20
    · refine ⟨false, Ev.step (f := fun _ => some false) (fun k => ?_) (Ev.const rfl), fun e => by cases e⟩
      simp only [althinglaw05_Few.j4]; rw [if_neg (by simp), if_neg h1, if_pos h2]
    · obtain ⟨q, hq, hp⟩ := hn
      refine ⟨q, Ev.step (fun k => ?_) hq, fun e => ⟨hp e, by omega, by omega⟩⟩
      simp only [althinglaw05_Few.j4]; rw [if_neg (by simp), if_neg h1, if_neg h2]
theorem few_l2 (hn : ∃ q, Ev (fun k => althinglaw05_Few.l0 k l n (wrap64 (j + 1))) q ∧ (q = true → P)) : ∀ dd i, i + dd = min w.length 21 → ∃ q, Ev (fun k => althinglaw05_Few.l2 k (i : Int) l n j a b c d e s r w m) q ∧ (q = true → P ∧ r.length ≤ 20 ∧ w.length ≤ 20 ∧ ∀ x ∈ w.drop i, x.f0.size ≤ 100 ∧ x.f1.size ≤ 100)
  | 0, i, hi => by
    obtain ⟨q, hq, hp⟩ := few_j4 l n j a b c d e s r w m P hn (i : Int)
    refine ⟨q, Ev.step (fun k => ?_) hq, fun e => ⟨(hp e).1, (hp e).2.1, (hp e).2.2, fun x hx => ?_⟩⟩
    · simp only [althinglaw05_Few.l2]
      by_cases h1 : (i : Int) < (w.length : Int)
      · rw [if_pos h1, decide_eq_false (by omega)]
      · rw [if_neg h1]
    · have := (hp e).2.2
      rw [List.drop_eq_nil_of_le (by omega)] at hx
      cases hx
  | dd + 1, i, hi => by
    have hil : i < w.length := by omega
    have hstep : ∀ k, althinglaw05_Few.l2 (k + 1) (i : Int) l n j a b c d e s r w m = althinglaw05_Few.j4 k (i : Int) l n j true a b c d e s r w m := fun k => by
      simp only [althinglaw05_Few.l2]; rw [if_pos (by omega), decide_eq_true (by omega)]
    have hj : ∃ q, Ev (fun k => althinglaw05_Few.j4 k (i : Int) l n j true a b c d e s r w m) q ∧ (q = true → P ∧ r.length ≤ 20 ∧ w.length ≤ 20 ∧ ∀ x ∈ w.drop i, x.f0.size ≤ 100 ∧ x.f1.size ≤ 100) := by
      by_cases h1 : (w[i].f0.size : Int) > 100
      · refine ⟨false, Ev.step (f := fun _ => some false) (fun k => ?_) (Ev.const rfl), fun e => by cases e⟩
        simp only [althinglaw05_Few.j4]; rw [if_pos trivial, if_pos (by omega), if_pos (by omega), rdW w i hil, if_pos h1]
      · by_cases h2 : (w[i].f1.size : Int) > 100
        · refine ⟨false, Ev.step (f := fun _ => some false) (fun k => ?_) (Ev.const rfl), fun e => by cases e⟩
          simp only [althinglaw05_Few.j4]; rw [if_pos trivial, if_pos (by omega), if_pos (by omega), rdW w i hil, if_neg h1, if_pos h2]
        · obtain ⟨q, hq, hp⟩ := few_l2 hn dd (i + 1) (by omega)
          refine ⟨q, Ev.step (fun k => ?_) hq, fun e => ⟨(hp e).1, (hp e).2.1, (hp e).2.2.1, fun x hx => ?_⟩⟩
          · simp only [althinglaw05_Few.j4]; rw [if_pos trivial, if_pos (by omega), if_pos (by omega), rdW w i hil, if_neg h1, if_neg h2, w1 i (by omega)]
          · rw [List.drop_eq_getElem_cons hil] at hx
            rcases List.mem_cons.1 hx with rfl | hx
            · exact ⟨by omega, by omega⟩
            · exact (hp e).2.2.2 x hx
    obtain ⟨q, hq, hp⟩ := hj
    exact ⟨q, Ev.step hstep hq, hp⟩
theorem few_l1 (hn : ∃ q, Ev (fun k => althinglaw05_Few.l0 k l n (wrap64 (j + 1))) q ∧ (q = true → P)) : ∀ dd i, i + dd = min r.length 21 → ∃ q, Ev (fun k => althinglaw05_Few.l1 k (i : Int) l n j a b c d e s r w m) q ∧ (q = true → P ∧ r.length ≤ 20 ∧ w.length ≤ 20 ∧ (∀ x ∈ r.drop i, x.f0.size ≤ 100) ∧ ∀ x ∈ w, x.f0.size ≤ 100 ∧ x.f1.size ≤ 100)
  | 0, i, hi => by
    obtain ⟨q, hq, hp⟩ := few_l2 l n j a b c d e s r w m P hn (min w.length 21) 0 (by omega)
    refine ⟨q, Ev.step (f := fun k => althinglaw05_Few.j2 k (i : Int) l n j false a b c d e s r w m) (fun k => ?_) (Ev.step (fun k => ?_) hq), fun e => ⟨(hp e).1, (hp e).2.1, (hp e).2.2.1, fun x hx => ?_, by simpa using (hp e).2.2.2⟩⟩
    · simp only [althinglaw05_Few.l1]
      by_cases h1 : (i : Int) < (r.length : Int)
      · rw [if_pos h1, decide_eq_false (by omega)]
      · rw [if_neg h1]
    · simp only [althinglaw05_Few.j2]; rw [if_neg (by simp)]; rfl
    · have := (hp e).2.1
      rw [List.drop_eq_nil_of_le (by omega)] at hx
      cases hx
  | dd + 1, i, hi => by
    have hil : i < r.length := by omega
    have hstep : ∀ k, althinglaw05_Few.l1 (k + 1) (i : Int) l n j a b c d e s r w m = althinglaw05_Few.j2 k (i : Int) l n j true a b c d e s r w m := fun k => by
      simp only [althinglaw05_Few.l1]; rw [if_pos (by omega), decide_eq_true (by omega)]
    have hj : ∃ q, Ev (fun k => althinglaw05_Few.j2 k (i : Int) l n j true a b c d e s r w m) q ∧ (q = true → P ∧ r.length ≤ 20 ∧ w.length ≤ 20 ∧ (∀ x ∈ r.drop i, x.f0.size ≤ 100) ∧ ∀ x ∈ w, x.f0.size ≤ 100 ∧ x.f1.size ≤ 100) := by
      by_cases h1 : (r[i].f0.size : Int) > 100
      · refine ⟨false, Ev.step (f := fun _ => some false) (fun k => ?_) (Ev.const rfl), fun e => by cases e⟩
        simp only [althinglaw05_Few.j2]; rw [if_pos trivial, if_pos (by omega), if_pos (by omega), rdR r i hil, if_pos h1]
      · obtain ⟨q, hq, hp⟩ := few_l1 hn dd (i + 1) (by omega)
        refine ⟨q, Ev.step (fun k => ?_) hq, fun e => ⟨(hp e).1, (hp e).2.1, (hp e).2.2.1, fun x hx => ?_, (hp e).2.2.2.2⟩⟩
        · simp only [althinglaw05_Few.j2]; rw [if_pos trivial, if_pos (by omega), if_pos (by omega), rdR r i hil, if_neg h1, w1 i (by omega)]
        · rw [List.drop_eq_getElem_cons hil] at hx
          rcases List.mem_cons.1 hx with rfl | hx
          · omega
          · exact (hp e).2.2.2.1 x hx
    obtain ⟨q, hq, hp⟩ := hj
    exact ⟨q, Ev.step hstep hq, hp⟩
end
theorem few_l0 (l : List Cm) (hl : l.length ≤ 1000) : ∀ dd i, i + dd = l.length → ∃ q, Ev (fun k => althinglaw05_Few.l0 k l (l.length : Int) (i : Int)) q ∧ (q = true → ∀ c ∈ l.drop i, small c.f4 c.f5)
  | 0, i, hi => by
    refine ⟨true, Ev.step (f := fun _ => some true) (fun k => ?_) (Ev.const rfl), fun _ c hc => ?_⟩
    · simp only [althinglaw05_Few.l0]; rw [if_neg (by omega)]
    · rw [List.drop_eq_nil_of_le (by omega)] at hc; cases hc
  | dd + 1, i, hi => by
    have hil : i < l.length := by omega
    obtain ⟨q0, hq0, hp0⟩ := few_l0 l hl dd (i + 1) (by omega)
    have hn : ∃ q, Ev (fun k => althinglaw05_Few.l0 k l (l.length : Int) (wrap64 ((i : Int) + 1))) q ∧ (q = true → ∀ c ∈ l.drop (i + 1), small c.f4 c.f5) := ⟨q0, by rw [w1 i (by omega)]; exact hq0, hp0⟩
    obtain ⟨q, hq, hp⟩ := few_l1 l (l.length : Int) (i : Int) l[i].f0 l[i].f1.f0 l[i].f1.f1 l[i].f2.f0 l[i].f2.f1 l[i].f3 l[i].f4 l[i].f5 l[i].f6 _ hn (min l[i].f4.length 21) 0 (by omega)
    refine ⟨q, Ev.step (fun k => ?_) hq, fun e c hc => ?_⟩
    · simp only [althinglaw05_Few.l0]; rw [if_pos (by omega), if_pos (by omega), if_pos (by omega), rdC l i hil]; rfl
    · rw [List.drop_eq_getElem_cons hil] at hc
      rcases List.mem_cons.1 hc with rfl | hc
      · have := hp e
        exact ⟨this.2.1, this.2.2.1, by simpa using this.2.2.2.1, this.2.2.2.2⟩
      · exact (hp e).1 c hc
theorem few_ex (l : List Cm) (hl : l.length ≤ 1000) : ∃ q, Ev (fun k => althinglaw05_Few.f k l) q ∧ (q = true → ∀ c ∈ l, small c.f4 c.f5) := by
  obtain ⟨q, hq, hp⟩ := few_l0 l hl l.length 0 (by omega)
  exact ⟨q, hq, by simpa using hp⟩
def someR : List Rd := [⟨⟨#[97]⟩, ⟨0, 0⟩⟩]
def someW : List Wr := [⟨⟨#[98]⟩, ⟨#[49]⟩⟩]
theorem some_small : small someR someW := ⟨by decide, by decide, by unfold someR; simp; decide, by unfold someW; simp; decide⟩
theorem some_right : rightB 1 0 1 1 0 1 someR someW false = true := by decide
theorem some_keys : (keysB someR someW).length = 2 := by
  unfold keysB joinB
  rw [srt_length]
  decide
theorem awake_is : Ev (fun k => althinglaw05_awake.f k) true := by
  unfold althinglaw05_awake.f althinglaw05_some.f
  simp only [Option.bind_some]
  refine Ev.bindT (some_right ▸ right_is 1 0 1 1 0 1 someR someW false some_small) ?_
  refine Ev.bindT ((show interB 1 0 1 someR someW 1 0 1 someR someW = true by simp [interB]) ▸ inter_is 1 0 1 1 0 1 someR someW false 1 0 1 1 0 1 someR someW false some_small some_small) ?_
  refine Ev.bind (keys_is 1 0 1 1 0 1 someR someW false some_small) (Ev.congr (fun k => if_pos (by rw [some_keys]; rfl)) ?_)
  exact Ev.bind (same_self 1 0 1 1 0 1 someR someW false some_small) (Ev.const rfl)
end Go.Proofs.Ytnjeeedndnfglaa.Strs
end
section
namespace Go.Proofs.Ytnjeeedndnfglaa.X
open Go.RowKit Go.Proofs.YtnjeeedndnfglaaW.PrintWords Go.Proofs.YtnjeeedndnfglaaW.PrintLast Go.Proofs.YtnjeeedndnfglaaW.PrintMore
attribute [local go_sem] max2_int min2_int max_two min_two max_three min_three max_four min_four   -- for this text's walks alone
set_option linter.unusedVariables false
set_option linter.unusedSimpArgs false
attribute [local go_sem high] eqA23 eqA25 eqA38 eqA40
/-! ### althingref05_Same: function 11 -/
mutual
def althingref05_Same.j0 : Nat → Bool → Int → Int → Int → Int → Int → Int → List (S38) → List (S40) → Bool → Int → Int → Int → Int → Int → Int → List (S38) → List (S40) → Bool → Option (Bool)
 | 0, _, _, _, _, _, _, _, _, _, _, _, _, _, _, _, _, _, _, _ => none
 | k + 1, x57, x280000, x280001, x280002, x280003, x280004, x280005, x280006, x280007, x280008, x281000, x281001, x281002, x281003, x281004, x281005, x281006, x281007, x281008 => if x57 = true then (some false) else (althingref05_Same.l0 k 0 x280000 x280001 x280002 x280003 x280004 x280005 x280006 x280007 x280008 x281000 x281001 x281002 x281003 x281004 x281005 x281006 x281007 x281008)
def althingref05_Same.l0 : Nat → Int → Int → Int → Int → Int → Int → Int → List (S38) → List (S40) → Bool → Int → Int → Int → Int → Int → Int → List (S38) → List (S40) → Bool → Option (Bool)
 | 0, _, _, _, _, _, _, _, _, _, _, _, _, _, _, _, _, _, _, _ => none
 | k + 1, x5, x280000, x280001, x280002, x280003, x280004, x280005, x280006, x280007, x280008, x281000, x281001, x281002, x281003, x281004, x281005, x281006, x281007, x281008 => if x5 < (x280006.length : Int) then (if 0 ≤ x5 then (if x5 < (x281006.length : Int) then (if (!((((rd_T38 x280006 x5).f0).toList) == (((rd_T38 x281006 x5).f0).toList)) || ((!(((rd_T38 x280006 x5).f1.f0) == ((rd_T38 x281006 x5).f1.f0)) || (!(((rd_T38 x280006 x5).f1.f1) == ((rd_T38 x281006 x5).f1.f1)))))) = true then (some false) else (althingref05_Same.l0 k (wrap64 (x5 + 1)) x280000 x280001 x280002 x280003 x280004 x280005 x280006 x280007 x280008 x281000 x281001 x281002 x281003 x281004 x281005 x281006 x281007 x281008)) else (none)) else (none)) else (althingref05_Same.l1 k 0 x280000 x280001 x280002 x280003 x280004 x280005 x280006 x280007 x280008 x281000 x281001 x281002 x281003 x281004 x281005 x281006 x281007 x281008)
def althingref05_Same.l1 : Nat → Int → Int → Int → Int → Int → Int → Int → List (S38) → List (S40) → Bool → Int → Int → Int → Int → Int → Int → List (S38) → List (S40) → Bool → Option (Bool)
 | 0, _, _, _, _, _, _, _, _, _, _, _, _, _, _, _, _, _, _, _ => none
 | k + 1, x6, x280000, x280001, x280002, x280003, x280004, x280005, x280006, x280007, x280008, x281000, x281001, x281002, x281003, x281004, x281005, x281006, x281007, x281008 => if x6 < (x280007.length : Int) then (if 0 ≤ x6 then (if x6 < (x281007.length : Int) then (if (!((((rd_T40 x280007 x6).f0).toList) == (((rd_T40 x281007 x6).f0).toList)) || (!((((rd_T40 x280007 x6).f1).toList) == (((rd_T40 x281007 x6).f1).toList)))) = true then (some false) else (althingref05_Same.l1 k (wrap64 (x6 + 1)) x280000 x280001 x280002 x280003 x280004 x280005 x280006 x280007 x280008 x281000 x281001 x281002 x281003 x281004 x281005 x281006 x281007 x281008)) else (none)) else (none)) else (some true)
end
def althingref05_Same.f (k : Nat) (a0_0 : Int) (a0_1 : Int) (a0_2 : Int) (a0_3 : Int) (a0_4 : Int) (a0_5 : Int) (l0_6 : List (S38)) (l0_7 : List (S40)) (a0_8 : Bool) (a1_0 : Int) (a1_1 : Int) (a1_2 : Int) (a1_3 : Int) (a1_4 : Int) (a1_5 : Int) (l1_6 : List (S38)) (l1_7 : List (S40)) (a1_8 : Bool) : Option (Bool) := if a0_0 = a1_0 then (if (!(a0_1 == a1_1) || (!(a0_2 == a1_2))) = true then (althingref05_Same.j0 k true a0_0 a0_1 a0_2 a0_3 a0_4 a0_5 l0_6 l0_7 a0_8 a1_0 a1_1 a1_2 a1_3 a1_4 a1_5 l1_6 l1_7 a1_8) else (if (!(a0_3 == a1_3) || (!(a0_4 == a1_4))) = true then (althingref05_Same.j0 k true a0_0 a0_1 a0_2 a0_3 a0_4 a0_5 l0_6 l0_7 a0_8 a1_0 a1_1 a1_2 a1_3 a1_4 a1_5 l1_6 l1_7 a1_8) else (if a0_5 = a1_5 then (if (a0_8 != a1_8) = true then (althingref05_Same.j0 k true a0_0 a0_1 a0_2 a0_3 a0_4 a0_5 l0_6 l0_7 a0_8 a1_0 a1_1 a1_2 a1_3 a1_4 a1_5 l1_6 l1_7 a1_8) else (if (l0_6.length : Int) = (l1_6.length : Int) then (althingref05_Same.j0 k ((l0_7.length : Int) != (l1_7.length : Int)) a0_0 a0_1 a0_2 a0_3 a0_4 a0_5 l0_6 l0_7 a0_8 a1_0 a1_1 a1_2 a1_3 a1_4 a1_5 l1_6 l1_7 a1_8) else (althingref05_Same.j0 k true a0_0 a0_1 a0_2 a0_3 a0_4 a0_5 l0_6 l0_7 a0_8 a1_0 a1_1 a1_2 a1_3 a1_4 a1_5 l1_6 l1_7 a1_8))) else (althingref05_Same.j0 k true a0_0 a0_1 a0_2 a0_3 a0_4 a0_5 l0_6 l0_7 a0_8 a1_0 a1_1 a1_2 a1_3 a1_4 a1_5 l1_6 l1_7 a1_8)))) else (althingref05_Same.j0 k true a0_0 a0_1 a0_2 a0_3 a0_4 a0_5 l0_6 l0_7 a0_8 a1_0 a1_1 a1_2 a1_3 a1_4 a1_5 l1_6 l1_7 a1_8)
set_option maxHeartbeats 8000000 in
set_option maxRecDepth 100000 in
theorem althingref05_Same.calls (k : Nat) (a0_0 : Int) (a0_1 : Int) (a0_2 : Int) (a0_3 : Int) (a0_4 : Int) (a0_5 : Int) (A0_6 : Option Addr) (c0_6 : Nat) (l0_6 : List (S38)) (A0_7 : Option Addr) (c0_7 : Nat) (l0_7 : List (S40)) (a0_8 : Bool) (a1_0 : Int) (a1_1 : Int) (a1_2 : Int) (a1_3 : Int) (a1_4 : Int) (a1_5 : Int) (A1_6 : Option Addr) (c1_6 : Nat) (l1_6 : List (S38)) (A1_7 : Option Addr) (c1_7 : Nat) (l1_7 : List (S40)) (a1_8 : Bool) (r : Bool) (w : World) (hr0_6 : Kd.C k38 w A0_6 l0_6.length l0_6) (hc0_6 : l0_6.length ≤ c0_6) (hr0_7 : Kd.C k40 w A0_7 l0_7.length l0_7) (hc0_7 : l0_7.length ≤ c0_7) (hr1_6 : Kd.C k38 w A1_6 l1_6.length l1_6) (hc1_6 : l1_6.length ≤ c1_6) (hr1_7 : Kd.C k40 w A1_7 l1_7.length l1_7) (hc1_7 : l1_7.length ≤ c1_7) (h : althingref05_Same.f k a0_0 a0_1 a0_2 a0_3 a0_4 a0_5 l0_6 l0_7 a0_8 a1_0 a1_1 a1_2 a1_3 a1_4 a1_5 l1_6 l1_7 a1_8 = some r) :
 Calls Try.prog 11 #[.agg #[.int .i64 a0_0, .int .i64 a0_1, .int .i64 a0_2, .int .i64 a0_3, .int .i64 a0_4, .int .i64 a0_5, .slice A0_6 l0_6.length c0_6, .slice A0_7 l0_7.length c0_7, .bool a0_8], .agg #[.int .i64 a1_0, .int .i64 a1_1, .int .i64 a1_2, .int .i64 a1_3, .int .i64 a1_4, .int .i64 a1_5, .slice A1_6 l1_6.length c1_6, .slice A1_7 l1_7.length c1_7, .bool a1_8]] w fun e w' => e = .returned (.bool r) ∧ Below w.heap.size w w' := by
 have hu29 := Try.underlying29
 have hu23 := Try.underlying23
 have hu25 := Try.underlying25
 have hu38 := Try.underlying38
 have hu40 := Try.underlying40
 have HR0_6 := Aside0.mk hr0_6
 have HC0_6 := Aside0.mk hc0_6
 clear hr0_6 hc0_6
 have HR0_7 := Aside0.mk hr0_7
 have HC0_7 := Aside0.mk hc0_7
 clear hr0_7 hc0_7
 have HR1_6 := Aside0.mk hr1_6
 have HC1_6 := Aside0.mk hc1_6
 clear hr1_6 hc1_6
 have HR1_7 := Aside0.mk hr1_7
 have HC1_7 := Aside0.mk hc1_7
 clear hr1_7 hc1_7
 have HB := Aside0.mk (Below.refl w.heap.size w)
 have H : (if a0_0 = a1_0 then (if (!(a0_1 == a1_1) || (!(a0_2 == a1_2))) = true then (althingref05_Same.j0 k true a0_0 a0_1 a0_2 a0_3 a0_4 a0_5 l0_6 l0_7 a0_8 a1_0 a1_1 a1_2 a1_3 a1_4 a1_5 l1_6 l1_7 a1_8) else (if (!(a0_3 == a1_3) || (!(a0_4 == a1_4))) = true then (althingref05_Same.j0 k true a0_0 a0_1 a0_2 a0_3 a0_4 a0_5 l0_6 l0_7 a0_8 a1_0 a1_1 a1_2 a1_3 a1_4 a1_5 l1_6 l1_7 a1_8) else (if a0_5 = a1_5 then (if (a0_8 != a1_8) = true then (althingref05_Same.j0 k true a0_0 a0_1 a0_2 a0_3 a0_4 a0_5 l0_6 l0_7 a0_8 a1_0 a1_1 a1_2 a1_3 a1_4 a1_5 l1_6 l1_7 a1_8) else (if (l0_6.length : Int) = (l1_6.length : Int) then (althingref05_Same.j0 k ((l0_7.length : Int) != (l1_7.length : Int)) a0_0 a0_1 a0_2 a0_3 a0_4 a0_5 l0_6 l0_7 a0_8 a1_0 a1_1 a1_2 a1_3 a1_4 a1_5 l1_6 l1_7 a1_8) else (althingref05_Same.j0 k true a0_0 a0_1 a0_2 a0_3 a0_4 a0_5 l0_6 l0_7 a0_8 a1_0 a1_1 a1_2 a1_3 a1_4 a1_5 l1_6 l1_7 a1_8))) else (althingref05_Same.j0 k true a0_0 a0_1 a0_2 a0_3 a0_4 a0_5 l0_6 l0_7 a0_8 a1_0 a1_1 a1_2 a1_3 a1_4 a1_5 l1_6 l1_7 a1_8)))) else (althingref05_Same.j0 k true a0_0 a0_1 a0_2 a0_3 a0_4 a0_5 l0_6 l0_7 a0_8 a1_0 a1_1 a1_2 a1_3 a1_4 a1_5 l1_6 l1_7 a1_8)) = some r := h
 clear h
 have HC3 := Aside0.mk H
 clear H
 go_enter Try.func11, Try.ntmps11
 have hq0 := True.intro
 repeat ((first | clear hq0 | go_quiet (fail)); try go_upto_region 1 with (first | ((with_reducible refine gate_dst (N := 2) rfl ?_); (try (refine gate_guard (by rfl) ?_; dsimp only)); refine box_event ?hg (N := 2) ?hd (cs := #[.int .i64 a0_0, .int .i64 a0_1, .int .i64 a0_2, .int .i64 a0_3, .int .i64 a0_4, .int .i64 a0_5, .slice A0_6 l0_6.length c0_6, .slice A0_7 l0_7.length c0_7, .bool a0_8]) (t := 29) ?hr ?_; (case hd => rfl); (case hg => rfl); (case hr => first | (go_simp; done) | (go_simp; rfl)); intro gb279 hg w4 hbox hb; have n0_ := Aside0.mk (below_step lb_ hb); have n1_ := Aside0.mk (hbox); have n2_ := Aside0.mk ((by rw [hg]; exact (below_size lb_) : w.heap.size ≤ gb279)); have n3_ := Aside0.mk ((by rw [hg]; exact (below_size lb_) : w.heap.size ≤ gb279)); clear HB; have HB := n0_; have BK279 := n1_; have GW279 := n2_; have GE279 := n3_; clear n0_ n1_ n2_ n3_; clear hb hbox hg) | ((with_reducible refine gate_dst (N := 3) rfl ?_); (try (refine gate_guard (by rfl) ?_; dsimp only)); refine box_event ?hg (N := 3) ?hd (cs := #[.int .i64 a1_0, .int .i64 a1_1, .int .i64 a1_2, .int .i64 a1_3, .int .i64 a1_4, .int .i64 a1_5, .slice A1_6 l1_6.length c1_6, .slice A1_7 l1_7.length c1_7, .bool a1_8]) (t := 29) ?hr ?_; (case hd => rfl); (case hg => rfl); (case hr => first | (go_simp; done) | (go_simp; rfl)); intro gb280 hg w5 hbox hb; have n0_ := Aside0.mk (blk_below (kb_ BK279.out) hb); have n1_ := Aside0.mk (below_step (by repeat (first | (with_reducible first | exact HB.out | apply below_alloc | apply pw_below_drewN | apply below_drew1 | refine below_set ?_ GE279.out) | exact HB.out)) hb); have n2_ := Aside0.mk (hbox); have n3_ := Aside0.mk ((by rw [hg]; exact (below_size (by repeat (first | (with_reducible first | exact HB.out | apply below_alloc | apply pw_below_drewN | apply below_drew1 | refine below_set ?_ GE279.out) | exact HB.out))) : w.heap.size ≤ gb280)); have n4_ := Aside0.mk ((by rw [hg]; exact (below_size (by repeat (first | (with_reducible first | exact HB.out | apply below_alloc | apply pw_below_drewN | apply below_drew1 | refine below_set ?_ GE279.out) | exact HB.out))) : w.heap.size ≤ gb280)); have n5_ := Aside0.mk ((by rw [hg]; exact Nat.ne_of_lt (blk_lt (kb_ BK279.out)) : gb279 ≠ gb280)); have n6_ := Aside0.mk ((by rw [hg]; exact Nat.ne_of_gt (blk_lt (kb_ BK279.out)) : gb280 ≠ gb279)); clear BK279; clear HB; have BK279 := n0_; have HB := n1_; have BK280 := n2_; have GW280 := n3_; have GE280 := n4_; have NB279_280 := n5_; have NB280_279 := n6_; clear n0_ n1_ n2_ n3_ n4_ n5_ n6_; clear hb hbox hg)))
 (try simp only [Act.put, List.setIfInBounds_toArray, List.set_cons_zero, List.set_cons_succ])
 go_cut [57] (fun v57 wc => ∃ (kq : Nat) (x57_2 : Bool), v57 = .bool x57_2 ∧ Aside0 (althingref05_Same.j0 kq x57_2 a0_0 a0_1 a0_2 a0_3 a0_4 a0_5 l0_6 l0_7 a0_8 a1_0 a1_1 a1_2 a1_3 a1_4 a1_5 l1_6 l1_7 a1_8 = some r) ∧ Aside0 (kq ≤ k) ∧ Aside0 (wc.heap[gb279]? = some (.cells #[.int .i64 a0_0, .int .i64 a0_1, .int .i64 a0_2, .int .i64 a0_3, .int .i64 a0_4, .int .i64 a0_5, (.slice A0_6 l0_6.length c0_6), (.slice A0_7 l0_7.length c0_7), .bool a0_8] 29 (0, 0))) ∧ Aside0 (wc.heap[gb280]? = some (.cells #[.int .i64 a1_0, .int .i64 a1_1, .int .i64 a1_2, .int .i64 a1_3, .int .i64 a1_4, .int .i64 a1_5, (.slice A1_6 l1_6.length c1_6), (.slice A1_7 l1_7.length c1_7), .bool a1_8] 29 (0, 0))) ∧ Aside0 (Below w.heap.size w wc))
 case first =>
  have H := HC3.out
  clear HC3
  by_cases c6 : a0_0 = a1_0
  · rw [if_pos c6] at H
    have c6b0 : (a0_0 == a1_0) = true := beq_iff_eq.mpr c6
    have c6b1 : (a0_0 != a1_0) = false := bne_eq_false_iff_eq.mpr c6
    clear c6
    (first | rw [c6b0] | (simp only [i64_w, i32_w]; rw [c6b0]) | skip)
    by_cases c7 : (!(a0_1 == a1_1) || (!(a0_2 == a1_2))) = true
    · rw [if_pos c7] at H
      have c7b0 : (!(a0_1 == a1_1) || (!(a0_2 == a1_2))) = true := c7
      clear c7
      have H' := Aside0.mk H
      clear H
      have hnb8 := NB279_280.out
      have hnc8 := NB280_279.out
      refine blk9_ BK279.out fun hcz9_0 hcz9_1 hcz9_2 hcz9_3 hcz9_4 hcz9_5 hcz9_6 hcz9_7 hcz9_8 hfz9_0 hfz9_1 hfz9_2 hfz9_3 hfz9_4 hfz9_5 hfz9_6 hfz9_7 hfz9_8 => ?_
      refine blk9_ BK280.out fun hcz10_0 hcz10_1 hcz10_2 hcz10_3 hcz10_4 hcz10_5 hcz10_6 hcz10_7 hcz10_8 hfz10_0 hfz10_1 hfz10_2 hfz10_3 hfz10_4 hfz10_5 hfz10_6 hfz10_7 hfz10_8 => ?_
      go_wp2
      repeat (go_quiet (fail); try go_wp2)
      go_meet
      case rel => exact ⟨_, (true), (by first | rfl | (simp; done) | (simp [*]; done)), H', ⟨by first | omega | exact Nat.le_refl _⟩, ⟨by (with_reducible repeat (first | refine blk_drewN ?_ _ | refine blk_drew ?_ | refine blk_alloc ?_ _)); exact BK279.out⟩, ⟨by (with_reducible repeat (first | refine blk_drewN ?_ _ | refine blk_drew ?_ | refine blk_alloc ?_ _)); exact BK280.out⟩, ⟨by repeat (first | (with_reducible first | exact HB.out | apply below_alloc | apply pw_below_drewN | apply below_drew1 | refine below_set ?_ GE279.out | refine below_set ?_ GE280.out) | exact HB.out)⟩⟩
    · rw [if_neg c7] at H
      have c7b0 : (!(a0_1 == a1_1) || (!(a0_2 == a1_2))) = false := by simpa using c7
      clear c7
      by_cases c11 : (!(a0_3 == a1_3) || (!(a0_4 == a1_4))) = true
      · rw [if_pos c11] at H
        have c11b0 : (!(a0_3 == a1_3) || (!(a0_4 == a1_4))) = true := c11
        clear c11
        have H' := Aside0.mk H
        clear H
        have hnb12 := NB279_280.out
        have hnc12 := NB280_279.out
        refine blk9_ BK279.out fun hcz13_0 hcz13_1 hcz13_2 hcz13_3 hcz13_4 hcz13_5 hcz13_6 hcz13_7 hcz13_8 hfz13_0 hfz13_1 hfz13_2 hfz13_3 hfz13_4 hfz13_5 hfz13_6 hfz13_7 hfz13_8 => ?_
        refine blk9_ BK280.out fun hcz14_0 hcz14_1 hcz14_2 hcz14_3 hcz14_4 hcz14_5 hcz14_6 hcz14_7 hcz14_8 hfz14_0 hfz14_1 hfz14_2 hfz14_3 hfz14_4 hfz14_5 hfz14_6 hfz14_7 hfz14_8 => ?_
        go_wp2
        repeat (go_quiet (fail); try go_wp2)
        go_meet
        case rel => exact ⟨_, (true), (by first | rfl | (simp; done) | (simp [*]; done)), H', ⟨by first | omega | exact Nat.le_refl _⟩, ⟨by (with_reducible repeat (first | refine blk_drewN ?_ _ | refine blk_drew ?_ | refine blk_alloc ?_ _)); exact BK279.out⟩, ⟨by (with_reducible repeat (first | refine blk_drewN ?_ _ | refine blk_drew ?_ | refine blk_alloc ?_ _)); exact BK280.out⟩, ⟨by repeat (first | (with_reducible first | exact HB.out | apply below_alloc | apply pw_below_drewN | apply below_drew1 | refine below_set ?_ GE279.out | refine below_set ?_ GE280.out) | exact HB.out)⟩⟩
      · rw [if_neg c11] at H
        have c11b0 : (!(a0_3 == a1_3) || (!(a0_4 == a1_4))) = false := by simpa using c11
        clear c11
        by_cases c15 : a0_5 = a1_5
        · rw [if_pos c15] at H
          have c15b0 : (a0_5 == a1_5) = true := beq_iff_eq.mpr c15
          have c15b1 : (a0_5 != a1_5) = false := bne_eq_false_iff_eq.mpr c15
          clear c15
          by_cases c16 : (a0_8 != a1_8) = true
          · rw [if_pos c16] at H
            have c16b0 : (a0_8 != a1_8) = true := c16
            (try (have c16b1 : decide (a0_8 = a1_8) = false := by simpa using c16))
            (try (have c16b2 : (a0_8 == a1_8) = false := by simpa using c16))
            (try (have c16b3 : ¬ (a0_8 = a1_8) := by simpa using c16))
            clear c16
            have H' := Aside0.mk H
            clear H
            have hnb17 := NB279_280.out
            have hnc17 := NB280_279.out
            refine blk9_ BK279.out fun hcz18_0 hcz18_1 hcz18_2 hcz18_3 hcz18_4 hcz18_5 hcz18_6 hcz18_7 hcz18_8 hfz18_0 hfz18_1 hfz18_2 hfz18_3 hfz18_4 hfz18_5 hfz18_6 hfz18_7 hfz18_8 => ?_
            refine blk9_ BK280.out fun hcz19_0 hcz19_1 hcz19_2 hcz19_3 hcz19_4 hcz19_5 hcz19_6 hcz19_7 hcz19_8 hfz19_0 hfz19_1 hfz19_2 hfz19_3 hfz19_4 hfz19_5 hfz19_6 hfz19_7 hfz19_8 => ?_
            go_wp2
            repeat (go_quiet (fail); try go_wp2)
            go_meet
            case rel => exact ⟨_, (true), (by first | rfl | (simp; done) | (simp [*]; done)), H', ⟨by first | omega | exact Nat.le_refl _⟩, ⟨by (with_reducible repeat (first | refine blk_drewN ?_ _ | refine blk_drew ?_ | refine blk_alloc ?_ _)); exact BK279.out⟩, ⟨by (with_reducible repeat (first | refine blk_drewN ?_ _ | refine blk_drew ?_ | refine blk_alloc ?_ _)); exact BK280.out⟩, ⟨by repeat (first | (with_reducible first | exact HB.out | apply below_alloc | apply pw_below_drewN | apply below_drew1 | refine below_set ?_ GE279.out | refine below_set ?_ GE280.out) | exact HB.out)⟩⟩
          · rw [if_neg c16] at H
            have c16b0 : (a0_8 != a1_8) = false := by simpa using c16
            (try (have c16b1 : decide (a0_8 = a1_8) = true := by simpa using c16))
            (try (have c16b2 : (a0_8 == a1_8) = true := by simpa using c16))
            clear c16
            by_cases c20 : (l0_6.length : Int) = (l1_6.length : Int)
            · rw [if_pos c20] at H
              have c20b0 : ((l0_6.length : Int) == (l1_6.length : Int)) = true := beq_iff_eq.mpr c20
              have c20b1 : ((l0_6.length : Int) != (l1_6.length : Int)) = false := bne_eq_false_iff_eq.mpr c20
              have c20b2 : (l0_6.length == l1_6.length) = true := by first | simpa using c20 | (simp at c20 ⊢; omega)
              clear c20
              have H' := Aside0.mk H
              clear H
              have hnb21 := NB279_280.out
              have hnc21 := NB280_279.out
              refine blk9_ BK279.out fun hcz22_0 hcz22_1 hcz22_2 hcz22_3 hcz22_4 hcz22_5 hcz22_6 hcz22_7 hcz22_8 hfz22_0 hfz22_1 hfz22_2 hfz22_3 hfz22_4 hfz22_5 hfz22_6 hfz22_7 hfz22_8 => ?_
              refine blk9_ BK280.out fun hcz23_0 hcz23_1 hcz23_2 hcz23_3 hcz23_4 hcz23_5 hcz23_6 hcz23_7 hcz23_8 hfz23_0 hfz23_1 hfz23_2 hfz23_3 hfz23_4 hfz23_5 hfz23_6 hfz23_7 hfz23_8 => ?_
              go_wp2
              repeat (go_quiet (fail); try go_wp2)
              go_meet
              case rel => exact ⟨_, (((l0_7.length : Int) != (l1_7.length : Int))), (by first | rfl | (simp; done) | (simp [*]; done)), H', ⟨by first | omega | exact Nat.le_refl _⟩, ⟨by (with_reducible repeat (first | refine blk_drewN ?_ _ | refine blk_drew ?_ | refine blk_alloc ?_ _)); exact BK279.out⟩, ⟨by (with_reducible repeat (first | refine blk_drewN ?_ _ | refine blk_drew ?_ | refine blk_alloc ?_ _)); exact BK280.out⟩, ⟨by repeat (first | (with_reducible first | exact HB.out | apply below_alloc | apply pw_below_drewN | apply below_drew1 | refine below_set ?_ GE279.out | refine below_set ?_ GE280.out) | exact HB.out)⟩⟩
            · rw [if_neg c20] at H
              have c20b0 : ((l0_6.length : Int) == (l1_6.length : Int)) = false := beq_eq_false_iff_ne.mpr c20
              have c20b1 : ((l0_6.length : Int) != (l1_6.length : Int)) = true := bne_iff_ne.mpr c20
              have c20b2 : (l0_6.length == l1_6.length) = false := by first | simpa using c20 | (simp at c20 ⊢; omega)
              have H' := Aside0.mk H
              clear H
              have hnb24 := NB279_280.out
              have hnc24 := NB280_279.out
              refine blk9_ BK279.out fun hcz25_0 hcz25_1 hcz25_2 hcz25_3 hcz25_4 hcz25_5 hcz25_6 hcz25_7 hcz25_8 hfz25_0 hfz25_1 hfz25_2 hfz25_3 hfz25_4 hfz25_5 hfz25_6 hfz25_7 hfz25_8 => ?_
              refine blk9_ BK280.out fun hcz26_0 hcz26_1 hcz26_2 hcz26_3 hcz26_4 hcz26_5 hcz26_6 hcz26_7 hcz26_8 hfz26_0 hfz26_1 hfz26_2 hfz26_3 hfz26_4 hfz26_5 hfz26_6 hfz26_7 hfz26_8 => ?_
              go_wp2
              repeat (go_quiet (fail); try go_wp2)
              go_meet
              case rel => exact ⟨_, (true), (by first | rfl | (simp; done) | (simp [*]; done)), H', ⟨by first | omega | exact Nat.le_refl _⟩, ⟨by (with_reducible repeat (first | refine blk_drewN ?_ _ | refine blk_drew ?_ | refine blk_alloc ?_ _)); exact BK279.out⟩, ⟨by (with_reducible repeat (first | refine blk_drewN ?_ _ | refine blk_drew ?_ | refine blk_alloc ?_ _)); exact BK280.out⟩, ⟨by repeat (first | (with_reducible first | exact HB.out | apply below_alloc | apply pw_below_drewN | apply below_drew1 | refine below_set ?_ GE279.out | refine below_set ?_ GE280.out) | exact HB.out)⟩⟩
        · rw [if_neg c15] at H
          have c15b0 : (a0_5 == a1_5) = false := beq_eq_false_iff_ne.mpr c15
          have c15b1 : (a0_5 != a1_5) = true := bne_iff_ne.mpr c15
          have H' := Aside0.mk H
          clear H
          have hnb27 := NB279_280.out
          have hnc27 := NB280_279.out
          refine blk9_ BK279.out fun hcz28_0 hcz28_1 hcz28_2 hcz28_3 hcz28_4 hcz28_5 hcz28_6 hcz28_7 hcz28_8 hfz28_0 hfz28_1 hfz28_2 hfz28_3 hfz28_4 hfz28_5 hfz28_6 hfz28_7 hfz28_8 => ?_
          refine blk9_ BK280.out fun hcz29_0 hcz29_1 hcz29_2 hcz29_3 hcz29_4 hcz29_5 hcz29_6 hcz29_7 hcz29_8 hfz29_0 hfz29_1 hfz29_2 hfz29_3 hfz29_4 hfz29_5 hfz29_6 hfz29_7 hfz29_8 => ?_
          go_wp2
          repeat (go_quiet (fail); try go_wp2)
          go_meet
          case rel => exact ⟨_, (true), (by first | rfl | (simp; done) | (simp [*]; done)), H', ⟨by first | omega | exact Nat.le_refl _⟩, ⟨by (with_reducible repeat (first | refine blk_drewN ?_ _ | refine blk_drew ?_ | refine blk_alloc ?_ _)); exact BK279.out⟩, ⟨by (with_reducible repeat (first | refine blk_drewN ?_ _ | refine blk_drew ?_ | refine blk_alloc ?_ _)); exact BK280.out⟩, ⟨by repeat (first | (with_reducible first | exact HB.out | apply below_alloc | apply pw_below_drewN | apply below_drew1 | refine below_set ?_ GE279.out | refine below_set ?_ GE280.out) | exact HB.out)⟩⟩
  · rw [if_neg c6] at H
    have c6b0 : (a0_0 == a1_0) = false := beq_eq_false_iff_ne.mpr c6
    have c6b1 : (a0_0 != a1_0) = true := bne_iff_ne.mpr c6
    (first | rw [c6b0] | (simp only [i64_w, i32_w]; rw [c6b0]) | skip)
    have H' := Aside0.mk H
    clear H
    have hnb30 := NB279_280.out
    have hnc30 := NB280_279.out
    refine blk9_ BK279.out fun hcz31_0 hcz31_1 hcz31_2 hcz31_3 hcz31_4 hcz31_5 hcz31_6 hcz31_7 hcz31_8 hfz31_0 hfz31_1 hfz31_2 hfz31_3 hfz31_4 hfz31_5 hfz31_6 hfz31_7 hfz31_8 => ?_
    refine blk9_ BK280.out fun hcz32_0 hcz32_1 hcz32_2 hcz32_3 hcz32_4 hcz32_5 hcz32_6 hcz32_7 hcz32_8 hfz32_0 hfz32_1 hfz32_2 hfz32_3 hfz32_4 hfz32_5 hfz32_6 hfz32_7 hfz32_8 => ?_
    go_wp2
    repeat (go_quiet (fail); try go_wp2)
    go_meet
    case rel => exact ⟨_, (true), (by first | rfl | (simp; done) | (simp [*]; done)), H', ⟨by first | omega | exact Nat.le_refl _⟩, ⟨by (with_reducible repeat (first | refine blk_drewN ?_ _ | refine blk_drew ?_ | refine blk_alloc ?_ _)); exact BK279.out⟩, ⟨by (with_reducible repeat (first | refine blk_drewN ?_ _ | refine blk_drew ?_ | refine blk_alloc ?_ _)); exact BK280.out⟩, ⟨by repeat (first | (with_reducible first | exact HB.out | apply below_alloc | apply pw_below_drewN | apply below_drew1 | refine below_set ?_ GE279.out | refine below_set ?_ GE280.out) | exact HB.out)⟩⟩
 case rest =>
  clear HC3
  try clear c1
  try clear c2
  try clear p2
  try clear c3
  try clear c6
  try clear c6b0
  try clear c6b1
  try clear c7
  try clear c7b0
  try clear c8
  try clear c11
  try clear c11b0
  try clear c12
  try clear c15
  try clear c15b0
  try clear c15b1
  try clear c16
  try clear c16b0
  try clear c16b1
  try clear c16b2
  try clear c17
  try clear c20
  try clear c20b0
  try clear c20b1
  try clear c20b2
  try clear c21
  try clear c24
  try clear c27
  try clear c30
  try clear hcz10_0 hcz10_1 hcz10_2 hcz10_3 hcz10_4 hcz10_5 hcz10_6 hcz10_7 hcz10_8
  try clear hcz13_0 hcz13_1 hcz13_2 hcz13_3 hcz13_4 hcz13_5 hcz13_6 hcz13_7 hcz13_8
  try clear hcz14_0 hcz14_1 hcz14_2 hcz14_3 hcz14_4 hcz14_5 hcz14_6 hcz14_7 hcz14_8
  try clear hcz18_0 hcz18_1 hcz18_2 hcz18_3 hcz18_4 hcz18_5 hcz18_6 hcz18_7 hcz18_8
  try clear hcz19_0 hcz19_1 hcz19_2 hcz19_3 hcz19_4 hcz19_5 hcz19_6 hcz19_7 hcz19_8
  try clear hcz22_0 hcz22_1 hcz22_2 hcz22_3 hcz22_4 hcz22_5 hcz22_6 hcz22_7 hcz22_8
  try clear hcz23_0 hcz23_1 hcz23_2 hcz23_3 hcz23_4 hcz23_5 hcz23_6 hcz23_7 hcz23_8
  try clear hcz25_0 hcz25_1 hcz25_2 hcz25_3 hcz25_4 hcz25_5 hcz25_6 hcz25_7 hcz25_8
  try clear hcz26_0 hcz26_1 hcz26_2 hcz26_3 hcz26_4 hcz26_5 hcz26_6 hcz26_7 hcz26_8
  try clear hcz28_0 hcz28_1 hcz28_2 hcz28_3 hcz28_4 hcz28_5 hcz28_6 hcz28_7 hcz28_8
  try clear hcz29_0 hcz29_1 hcz29_2 hcz29_3 hcz29_4 hcz29_5 hcz29_6 hcz29_7 hcz29_8
  try clear hcz31_0 hcz31_1 hcz31_2 hcz31_3 hcz31_4 hcz31_5 hcz31_6 hcz31_7 hcz31_8
  try clear hcz32_0 hcz32_1 hcz32_2 hcz32_3 hcz32_4 hcz32_5 hcz32_6 hcz32_7 hcz32_8
  try clear hcz9_0 hcz9_1 hcz9_2 hcz9_3 hcz9_4 hcz9_5 hcz9_6 hcz9_7 hcz9_8
  try clear hfz10_0 hfz10_1 hfz10_2 hfz10_3 hfz10_4 hfz10_5 hfz10_6 hfz10_7 hfz10_8
  try clear hfz13_0 hfz13_1 hfz13_2 hfz13_3 hfz13_4 hfz13_5 hfz13_6 hfz13_7 hfz13_8
  try clear hfz14_0 hfz14_1 hfz14_2 hfz14_3 hfz14_4 hfz14_5 hfz14_6 hfz14_7 hfz14_8
  try clear hfz18_0 hfz18_1 hfz18_2 hfz18_3 hfz18_4 hfz18_5 hfz18_6 hfz18_7 hfz18_8
  try clear hfz19_0 hfz19_1 hfz19_2 hfz19_3 hfz19_4 hfz19_5 hfz19_6 hfz19_7 hfz19_8
  try clear hfz22_0 hfz22_1 hfz22_2 hfz22_3 hfz22_4 hfz22_5 hfz22_6 hfz22_7 hfz22_8
  try clear hfz23_0 hfz23_1 hfz23_2 hfz23_3 hfz23_4 hfz23_5 hfz23_6 hfz23_7 hfz23_8
  try clear hfz25_0 hfz25_1 hfz25_2 hfz25_3 hfz25_4 hfz25_5 hfz25_6 hfz25_7 hfz25_8
  try clear hfz26_0 hfz26_1 hfz26_2 hfz26_3 hfz26_4 hfz26_5 hfz26_6 hfz26_7 hfz26_8
  try clear hfz28_0 hfz28_1 hfz28_2 hfz28_3 hfz28_4 hfz28_5 hfz28_6 hfz28_7 hfz28_8
  try clear hfz29_0 hfz29_1 hfz29_2 hfz29_3 hfz29_4 hfz29_5 hfz29_6 hfz29_7 hfz29_8
  try clear hfz31_0 hfz31_1 hfz31_2 hfz31_3 hfz31_4 hfz31_5 hfz31_6 hfz31_7 hfz31_8
  try clear hfz32_0 hfz32_1 hfz32_2 hfz32_3 hfz32_4 hfz32_5 hfz32_6 hfz32_7 hfz32_8
  try clear hfz9_0 hfz9_1 hfz9_2 hfz9_3 hfz9_4 hfz9_5 hfz9_6 hfz9_7 hfz9_8
  obtain ⟨kq, x57_2, rfl, HA, HJ2, BK279, BK280, HB⟩ := hcut
  cases kq with
  | zero => exact absurd HA.out (by simp [althingref05_Same.j0])
  | succ kj2 =>
   have H := HA.out
   clear HA
   simp only [althingref05_Same.j0] at H
   by_cases c33 : x57_2 = true
   · subst c33
     rw [if_pos rfl] at H
     obtain rfl := Option.some.inj H
     go_wp2
     repeat (go_quiet (fail); try go_wp2)
     go_ret
     exact ⟨by first | rfl | (simp [errW_none, errW_some] <;> rfl) | (simp [*, errW_none, errW_some] <;> rfl), by repeat (first | (with_reducible first | exact HB.out | apply below_alloc | apply pw_below_drewN | apply below_drew1 | refine below_set ?_ GE279.out | refine below_set ?_ GE280.out) | exact HB.out)⟩
   · replace c33 := Bool.eq_false_iff.mpr c33
     subst c33
     rw [if_neg (show ¬ (false = true) by decide)] at H
     have H' := Aside0.mk H
     clear H
     go_wp2
     repeat (go_quiet (fail); try go_wp2)
     go_loopg [5] kj2 (fun kq v5 w' => ∃ (x5_2 : Int), v5 = .int .i64 x5_2 ∧ Aside0 (althingref05_Same.l0 kq x5_2 a0_0 a0_1 a0_2 a0_3 a0_4 a0_5 l0_6 l0_7 a0_8 a1_0 a1_1 a1_2 a1_3 a1_4 a1_5 l1_6 l1_7 a1_8 = some r) ∧ Aside0 (kq ≤ kj2) ∧ Aside0 (w'.heap[gb279]? = some (.cells #[.int .i64 a0_0, .int .i64 a0_1, .int .i64 a0_2, .int .i64 a0_3, .int .i64 a0_4, .int .i64 a0_5, (.slice A0_6 l0_6.length c0_6), (.slice A0_7 l0_7.length c0_7), .bool a0_8] 29 (0, 0))) ∧ Aside0 (w'.heap[gb280]? = some (.cells #[.int .i64 a1_0, .int .i64 a1_1, .int .i64 a1_2, .int .i64 a1_3, .int .i64 a1_4, .int .i64 a1_5, (.slice A1_6 l1_6.length c1_6), (.slice A1_7 l1_7.length c1_7), .bool a1_8] 29 (0, 0))) ∧ Aside0 (Below w.heap.size w w'))
     case atStart => exact ⟨(0), (by first | rfl | (simp; done) | (simp [*]; done)), H', ⟨Nat.le_refl _⟩, ⟨by (with_reducible repeat (first | refine blk_drewN ?_ _ | refine blk_drew ?_ | refine blk_alloc ?_ _)); exact BK279.out⟩, ⟨by (with_reducible repeat (first | refine blk_drewN ?_ _ | refine blk_drew ?_ | refine blk_alloc ?_ _)); exact BK280.out⟩, ⟨by repeat (first | (with_reducible first | exact HB.out | apply below_alloc | apply pw_below_drewN | apply below_drew1 | refine below_set ?_ GE279.out | refine below_set ?_ GE280.out) | exact HB.out)⟩⟩
     case round =>
      clear H'
      try clear c1
      try clear c2
      try clear p2
      try clear c3
      try clear c6
      try clear c6b0
      try clear c6b1
      try clear c7
      try clear c7b0
      try clear c8
      try clear c11
      try clear c11b0
      try clear c12
      try clear c15
      try clear c15b0
      try clear c15b1
      try clear c16
      try clear c16b0
      try clear c16b1
      try clear c16b2
      try clear c17
      try clear c20
      try clear c20b0
      try clear c20b1
      try clear c20b2
      try clear c21
      try clear c24
      try clear c27
      try clear c30
      try clear c33
      try clear hcz10_0 hcz10_1 hcz10_2 hcz10_3 hcz10_4 hcz10_5 hcz10_6 hcz10_7 hcz10_8
      try clear hcz13_0 hcz13_1 hcz13_2 hcz13_3 hcz13_4 hcz13_5 hcz13_6 hcz13_7 hcz13_8
      try clear hcz14_0 hcz14_1 hcz14_2 hcz14_3 hcz14_4 hcz14_5 hcz14_6 hcz14_7 hcz14_8
      try clear hcz18_0 hcz18_1 hcz18_2 hcz18_3 hcz18_4 hcz18_5 hcz18_6 hcz18_7 hcz18_8
      try clear hcz19_0 hcz19_1 hcz19_2 hcz19_3 hcz19_4 hcz19_5 hcz19_6 hcz19_7 hcz19_8
      try clear hcz22_0 hcz22_1 hcz22_2 hcz22_3 hcz22_4 hcz22_5 hcz22_6 hcz22_7 hcz22_8
      try clear hcz23_0 hcz23_1 hcz23_2 hcz23_3 hcz23_4 hcz23_5 hcz23_6 hcz23_7 hcz23_8
      try clear hcz25_0 hcz25_1 hcz25_2 hcz25_3 hcz25_4 hcz25_5 hcz25_6 hcz25_7 hcz25_8
      try clear hcz26_0 hcz26_1 hcz26_2 hcz26_3 hcz26_4 hcz26_5 hcz26_6 hcz26_7 hcz26_8
      try clear hcz28_0 hcz28_1 hcz28_2 hcz28_3 hcz28_4 hcz28_5 hcz28_6 hcz28_7 hcz28_8
      try clear hcz29_0 hcz29_1 hcz29_2 hcz29_3 hcz29_4 hcz29_5 hcz29_6 hcz29_7 hcz29_8
      try clear hcz31_0 hcz31_1 hcz31_2 hcz31_3 hcz31_4 hcz31_5 hcz31_6 hcz31_7 hcz31_8
      try clear hcz32_0 hcz32_1 hcz32_2 hcz32_3 hcz32_4 hcz32_5 hcz32_6 hcz32_7 hcz32_8
      try clear hcz9_0 hcz9_1 hcz9_2 hcz9_3 hcz9_4 hcz9_5 hcz9_6 hcz9_7 hcz9_8
      try clear hfz10_0 hfz10_1 hfz10_2 hfz10_3 hfz10_4 hfz10_5 hfz10_6 hfz10_7 hfz10_8
      try clear hfz13_0 hfz13_1 hfz13_2 hfz13_3 hfz13_4 hfz13_5 hfz13_6 hfz13_7 hfz13_8
      try clear hfz14_0 hfz14_1 hfz14_2 hfz14_3 hfz14_4 hfz14_5 hfz14_6 hfz14_7 hfz14_8
      try clear hfz18_0 hfz18_1 hfz18_2 hfz18_3 hfz18_4 hfz18_5 hfz18_6 hfz18_7 hfz18_8
      try clear hfz19_0 hfz19_1 hfz19_2 hfz19_3 hfz19_4 hfz19_5 hfz19_6 hfz19_7 hfz19_8
      try clear hfz22_0 hfz22_1 hfz22_2 hfz22_3 hfz22_4 hfz22_5 hfz22_6 hfz22_7 hfz22_8
      try clear hfz23_0 hfz23_1 hfz23_2 hfz23_3 hfz23_4 hfz23_5 hfz23_6 hfz23_7 hfz23_8
      try clear hfz25_0 hfz25_1 hfz25_2 hfz25_3 hfz25_4 hfz25_5 hfz25_6 hfz25_7 hfz25_8
      try clear hfz26_0 hfz26_1 hfz26_2 hfz26_3 hfz26_4 hfz26_5 hfz26_6 hfz26_7 hfz26_8
      try clear hfz28_0 hfz28_1 hfz28_2 hfz28_3 hfz28_4 hfz28_5 hfz28_6 hfz28_7 hfz28_8
      try clear hfz29_0 hfz29_1 hfz29_2 hfz29_3 hfz29_4 hfz29_5 hfz29_6 hfz29_7 hfz29_8
      try clear hfz31_0 hfz31_1 hfz31_2 hfz31_3 hfz31_4 hfz31_5 hfz31_6 hfz31_7 hfz31_8
      try clear hfz32_0 hfz32_1 hfz32_2 hfz32_3 hfz32_4 hfz32_5 hfz32_6 hfz32_7 hfz32_8
      try clear hfz9_0 hfz9_1 hfz9_2 hfz9_3 hfz9_4 hfz9_5 hfz9_6 hfz9_7 hfz9_8
      try clear p2
      (try clear BK279); (try clear BK280)
      obtain ⟨x5_2, rfl, HA, HK2, BK279, BK280, HB⟩ := hrel
      cases gk with
      | zero => exact absurd HA.out (by simp [althingref05_Same.l0])
      | succ k2 =>
       have H := HA.out
       clear HA
       simp only [althingref05_Same.l0] at H
       by_cases c34 : x5_2 < (l0_6.length : Int)
       · rw [if_pos c34] at H
         have c34b0 : decide (x5_2 < (l0_6.length : Int)) = true := decide_eq_true c34
         clear c34
         by_cases c35 : 0 ≤ x5_2
         · rw [if_pos c35] at H
           have c35b0 : decide (0 ≤ x5_2) = true := decide_eq_true c35
           clear c35
           by_cases c36 : x5_2 < (l1_6.length : Int)
           · rw [if_pos c36] at H
             have c36b0 : decide (x5_2 < (l1_6.length : Int)) = true := decide_eq_true c36
             clear c36
             by_cases c37 : (!((((rd_T38 l0_6 x5_2).f0).toList) == (((rd_T38 l1_6 x5_2).f0).toList)) || ((!(((rd_T38 l0_6 x5_2).f1.f0) == ((rd_T38 l1_6 x5_2).f1.f0)) || (!(((rd_T38 l0_6 x5_2).f1.f1) == ((rd_T38 l1_6 x5_2).f1.f1)))))) = true
             · rw [if_pos c37] at H
               have c37b0 : (!((((rd_T38 l0_6 x5_2).f0).toList) == (((rd_T38 l1_6 x5_2).f0).toList)) || ((!(((rd_T38 l0_6 x5_2).f1.f0) == ((rd_T38 l1_6 x5_2).f1.f0)) || (!(((rd_T38 l0_6 x5_2).f1.f1) == ((rd_T38 l1_6 x5_2).f1.f1)))))) = true := c37
               clear c37
               obtain rfl := Option.some.inj H
               have hnb38 := NB279_280.out
               have hnc38 := NB280_279.out
               refine blk9_ BK279.out fun hcz39_0 hcz39_1 hcz39_2 hcz39_3 hcz39_4 hcz39_5 hcz39_6 hcz39_7 hcz39_8 hfz39_0 hfz39_1 hfz39_2 hfz39_3 hfz39_4 hfz39_5 hfz39_6 hfz39_7 hfz39_8 => ?_
               have p281 : 0 ≤ (x5_2 : Int) := of_decide_eq_true (by first | (with_reducible assumption) | assumption)
               have q281 : x5_2 < (l0_6.length : Int) := of_decide_eq_true (by first | (with_reducible assumption) | assumption)
               obtain ⟨ad281, e281, hx281_0, hx281_1, hx281_2⟩ := at_T38 HR0_6.out x5_2 p281 q281
               cases e281
               replace hx281_0 := (HB.out.cell (World.block_lt_of_cell? w _ hx281_0)).trans hx281_0
               replace hx281_1 := (HB.out.cell (World.block_lt_of_cell? w _ hx281_1)).trans hx281_1
               replace hx281_2 := (HB.out.cell (World.block_lt_of_cell? w _ hx281_2)).trans hx281_2
               replace p281 := eq_true p281
               replace q281 := eq_true q281
               refine blk9_ BK280.out fun hcz40_0 hcz40_1 hcz40_2 hcz40_3 hcz40_4 hcz40_5 hcz40_6 hcz40_7 hcz40_8 hfz40_0 hfz40_1 hfz40_2 hfz40_3 hfz40_4 hfz40_5 hfz40_6 hfz40_7 hfz40_8 => ?_
               have p282 : 0 ≤ (x5_2 : Int) := of_decide_eq_true (by first | (with_reducible assumption) | assumption)
               have q282 : x5_2 < (l1_6.length : Int) := of_decide_eq_true (by first | (with_reducible assumption) | assumption)
               obtain ⟨ad282, e282, hx282_0, hx282_1, hx282_2⟩ := at_T38 HR1_6.out x5_2 p282 q282
               cases e282
               replace hx282_0 := (HB.out.cell (World.block_lt_of_cell? w _ hx282_0)).trans hx282_0
               replace hx282_1 := (HB.out.cell (World.block_lt_of_cell? w _ hx282_1)).trans hx282_1
               replace hx282_2 := (HB.out.cell (World.block_lt_of_cell? w _ hx282_2)).trans hx282_2
               replace p282 := eq_true p282
               replace q282 := eq_true q282
               go_wp2
               repeat (go_quiet (fail); try go_wp2)
               go_ret
               exact ⟨by first | rfl | (simp [errW_none, errW_some] <;> rfl) | (simp [*, errW_none, errW_some] <;> rfl), by repeat (first | (with_reducible first | exact HB.out | apply below_alloc | apply pw_below_drewN | apply below_drew1 | refine below_set ?_ GE279.out | refine below_set ?_ GE280.out) | exact HB.out)⟩
             · rw [if_neg c37] at H
               have c37b0 : (!((((rd_T38 l0_6 x5_2).f0).toList) == (((rd_T38 l1_6 x5_2).f0).toList)) || ((!(((rd_T38 l0_6 x5_2).f1.f0) == ((rd_T38 l1_6 x5_2).f1.f0)) || (!(((rd_T38 l0_6 x5_2).f1.f1) == ((rd_T38 l1_6 x5_2).f1.f1)))))) = false := by simpa using c37
               clear c37
               have H' := Aside0.mk H
               clear H
               have hnb41 := NB279_280.out
               have hnc41 := NB280_279.out
               refine blk9_ BK279.out fun hcz42_0 hcz42_1 hcz42_2 hcz42_3 hcz42_4 hcz42_5 hcz42_6 hcz42_7 hcz42_8 hfz42_0 hfz42_1 hfz42_2 hfz42_3 hfz42_4 hfz42_5 hfz42_6 hfz42_7 hfz42_8 => ?_
               have p281 : 0 ≤ (x5_2 : Int) := of_decide_eq_true (by first | (with_reducible assumption) | assumption)
               have q281 : x5_2 < (l0_6.length : Int) := of_decide_eq_true (by first | (with_reducible assumption) | assumption)
               obtain ⟨ad281, e281, hx281_0, hx281_1, hx281_2⟩ := at_T38 HR0_6.out x5_2 p281 q281
               cases e281
               replace hx281_0 := (HB.out.cell (World.block_lt_of_cell? w _ hx281_0)).trans hx281_0
               replace hx281_1 := (HB.out.cell (World.block_lt_of_cell? w _ hx281_1)).trans hx281_1
               replace hx281_2 := (HB.out.cell (World.block_lt_of_cell? w _ hx281_2)).trans hx281_2
               replace p281 := eq_true p281
               replace q281 := eq_true q281
               refine blk9_ BK280.out fun hcz43_0 hcz43_1 hcz43_2 hcz43_3 hcz43_4 hcz43_5 hcz43_6 hcz43_7 hcz43_8 hfz43_0 hfz43_1 hfz43_2 hfz43_3 hfz43_4 hfz43_5 hfz43_6 hfz43_7 hfz43_8 => ?_
               have p282 : 0 ≤ (x5_2 : Int) := of_decide_eq_true (by first | (with_reducible assumption) | assumption)
               have q282 : x5_2 < (l1_6.length : Int) := of_decide_eq_true (by first | (with_reducible assumption) | assumption)
               obtain ⟨ad282, e282, hx282_0, hx282_1, hx282_2⟩ := at_T38 HR1_6.out x5_2 p282 q282
               cases e282
               replace hx282_0 := (HB.out.cell (World.block_lt_of_cell? w _ hx282_0)).trans hx282_0
               replace hx282_1 := (HB.out.cell (World.block_lt_of_cell? w _ hx282_1)).trans hx282_1
               replace hx282_2 := (HB.out.cell (World.block_lt_of_cell? w _ hx282_2)).trans hx282_2
               replace p282 := eq_true p282
               replace q282 := eq_true q282
               go_wp2
               repeat (go_quiet (fail); try go_wp2)
               go_roundg k2
               case measure => have := HJ2.out; have := HK2.out; omega
               case rel => exact ⟨(wrap64 (x5_2 + 1)), (by first | rfl | (simp; done) | (simp [*]; done)), H', ⟨by have := HJ2.out; have := HK2.out; omega⟩, ⟨by (with_reducible repeat (first | refine blk_drewN ?_ _ | refine blk_drew ?_ | refine blk_alloc ?_ _)); exact BK279.out⟩, ⟨by (with_reducible repeat (first | refine blk_drewN ?_ _ | refine blk_drew ?_ | refine blk_alloc ?_ _)); exact BK280.out⟩, ⟨by repeat (first | (with_reducible first | exact HB.out | apply below_alloc | apply pw_below_drewN | apply below_drew1 | refine below_set ?_ GE279.out | refine below_set ?_ GE280.out) | exact HB.out)⟩⟩
           · rw [if_neg c36] at H
             exact absurd H (by simp)
         · rw [if_neg c35] at H
           exact absurd H (by simp)
       · rw [if_neg c34] at H
         have c34b0 : decide (x5_2 < (l0_6.length : Int)) = false := decide_eq_false c34
         clear c34
         have H' := Aside0.mk H
         clear H
         have hnb44 := NB279_280.out
         have hnc44 := NB280_279.out
         refine blk9_ BK279.out fun hcz45_0 hcz45_1 hcz45_2 hcz45_3 hcz45_4 hcz45_5 hcz45_6 hcz45_7 hcz45_8 hfz45_0 hfz45_1 hfz45_2 hfz45_3 hfz45_4 hfz45_5 hfz45_6 hfz45_7 hfz45_8 => ?_
         go_wp2
         repeat (go_quiet (fail); try go_wp2)
         go_loopg [6] k2 (fun kq v6 w' => ∃ (x6_3 : Int), v6 = .int .i64 x6_3 ∧ Aside0 (althingref05_Same.l1 kq x6_3 a0_0 a0_1 a0_2 a0_3 a0_4 a0_5 l0_6 l0_7 a0_8 a1_0 a1_1 a1_2 a1_3 a1_4 a1_5 l1_6 l1_7 a1_8 = some r) ∧ Aside0 (kq ≤ k2) ∧ Aside0 (w'.heap[gb279]? = some (.cells #[.int .i64 a0_0, .int .i64 a0_1, .int .i64 a0_2, .int .i64 a0_3, .int .i64 a0_4, .int .i64 a0_5, (.slice A0_6 l0_6.length c0_6), (.slice A0_7 l0_7.length c0_7), .bool a0_8] 29 (0, 0))) ∧ Aside0 (w'.heap[gb280]? = some (.cells #[.int .i64 a1_0, .int .i64 a1_1, .int .i64 a1_2, .int .i64 a1_3, .int .i64 a1_4, .int .i64 a1_5, (.slice A1_6 l1_6.length c1_6), (.slice A1_7 l1_7.length c1_7), .bool a1_8] 29 (0, 0))) ∧ Aside0 (Below w.heap.size w w'))
         case atStart => exact ⟨(0), (by first | rfl | (simp; done) | (simp [*]; done)), H', ⟨Nat.le_refl _⟩, ⟨by (with_reducible repeat (first | refine blk_drewN ?_ _ | refine blk_drew ?_ | refine blk_alloc ?_ _)); exact BK279.out⟩, ⟨by (with_reducible repeat (first | refine blk_drewN ?_ _ | refine blk_drew ?_ | refine blk_alloc ?_ _)); exact BK280.out⟩, ⟨by repeat (first | (with_reducible first | exact HB.out | apply below_alloc | apply pw_below_drewN | apply below_drew1 | refine below_set ?_ GE279.out | refine below_set ?_ GE280.out) | exact HB.out)⟩⟩
         case round =>
          clear H'
          try clear c1
          try clear c2
          try clear p2
          try clear q2
          try clear hx2
          try clear c3
          try clear c4
          try clear c6
          try clear c6b0
          try clear c6b1
          try clear p6
          try clear c7
          try clear c7b0
          try clear c8
          try clear c11
          try clear c11b0
          try clear c12
          try clear c15
          try clear c15b0
          try clear c15b1
          try clear c16
          try clear c16b0
          try clear c16b1
          try clear c16b2
          try clear c17
          try clear c20
          try clear c20b0
          try clear c20b1
          try clear c20b2
          try clear c21
          try clear c24
          try clear c27
          try clear p28
          try clear q28
          try clear hx28
          try clear c30
          try clear c33
          try clear c34
          try clear c34b0
          try clear c35
          try clear c35b0
          try clear c36
          try clear c36b0
          try clear c37
          try clear c37b0
          try clear c38
          try clear c41
          try clear c44
          try clear hcz10_0 hcz10_1 hcz10_2 hcz10_3 hcz10_4 hcz10_5 hcz10_6 hcz10_7 hcz10_8
          try clear hcz13_0 hcz13_1 hcz13_2 hcz13_3 hcz13_4 hcz13_5 hcz13_6 hcz13_7 hcz13_8
          try clear hcz14_0 hcz14_1 hcz14_2 hcz14_3 hcz14_4 hcz14_5 hcz14_6 hcz14_7 hcz14_8
          try clear hcz18_0 hcz18_1 hcz18_2 hcz18_3 hcz18_4 hcz18_5 hcz18_6 hcz18_7 hcz18_8
          try clear hcz19_0 hcz19_1 hcz19_2 hcz19_3 hcz19_4 hcz19_5 hcz19_6 hcz19_7 hcz19_8
          try clear hcz22_0 hcz22_1 hcz22_2 hcz22_3 hcz22_4 hcz22_5 hcz22_6 hcz22_7 hcz22_8
          try clear hcz23_0 hcz23_1 hcz23_2 hcz23_3 hcz23_4 hcz23_5 hcz23_6 hcz23_7 hcz23_8
          try clear hcz25_0 hcz25_1 hcz25_2 hcz25_3 hcz25_4 hcz25_5 hcz25_6 hcz25_7 hcz25_8
          try clear hcz26_0 hcz26_1 hcz26_2 hcz26_3 hcz26_4 hcz26_5 hcz26_6 hcz26_7 hcz26_8
          try clear hcz28_0 hcz28_1 hcz28_2 hcz28_3 hcz28_4 hcz28_5 hcz28_6 hcz28_7 hcz28_8
          try clear hcz29_0 hcz29_1 hcz29_2 hcz29_3 hcz29_4 hcz29_5 hcz29_6 hcz29_7 hcz29_8
          try clear hcz31_0 hcz31_1 hcz31_2 hcz31_3 hcz31_4 hcz31_5 hcz31_6 hcz31_7 hcz31_8
          try clear hcz32_0 hcz32_1 hcz32_2 hcz32_3 hcz32_4 hcz32_5 hcz32_6 hcz32_7 hcz32_8
          try clear hcz39_0 hcz39_1 hcz39_2 hcz39_3 hcz39_4 hcz39_5 hcz39_6 hcz39_7 hcz39_8
          try clear hcz40_0 hcz40_1 hcz40_2 hcz40_3 hcz40_4 hcz40_5 hcz40_6 hcz40_7 hcz40_8
          try clear hcz42_0 hcz42_1 hcz42_2 hcz42_3 hcz42_4 hcz42_5 hcz42_6 hcz42_7 hcz42_8
          try clear hcz43_0 hcz43_1 hcz43_2 hcz43_3 hcz43_4 hcz43_5 hcz43_6 hcz43_7 hcz43_8
          try clear hcz45_0 hcz45_1 hcz45_2 hcz45_3 hcz45_4 hcz45_5 hcz45_6 hcz45_7 hcz45_8
          try clear hcz9_0 hcz9_1 hcz9_2 hcz9_3 hcz9_4 hcz9_5 hcz9_6 hcz9_7 hcz9_8
          try clear hfz10_0 hfz10_1 hfz10_2 hfz10_3 hfz10_4 hfz10_5 hfz10_6 hfz10_7 hfz10_8
          try clear hfz13_0 hfz13_1 hfz13_2 hfz13_3 hfz13_4 hfz13_5 hfz13_6 hfz13_7 hfz13_8
          try clear hfz14_0 hfz14_1 hfz14_2 hfz14_3 hfz14_4 hfz14_5 hfz14_6 hfz14_7 hfz14_8
          try clear hfz18_0 hfz18_1 hfz18_2 hfz18_3 hfz18_4 hfz18_5 hfz18_6 hfz18_7 hfz18_8
          try clear hfz19_0 hfz19_1 hfz19_2 hfz19_3 hfz19_4 hfz19_5 hfz19_6 hfz19_7 hfz19_8
          try clear hfz22_0 hfz22_1 hfz22_2 hfz22_3 hfz22_4 hfz22_5 hfz22_6 hfz22_7 hfz22_8
          try clear hfz23_0 hfz23_1 hfz23_2 hfz23_3 hfz23_4 hfz23_5 hfz23_6 hfz23_7 hfz23_8
          try clear hfz25_0 hfz25_1 hfz25_2 hfz25_3 hfz25_4 hfz25_5 hfz25_6 hfz25_7 hfz25_8
          try clear hfz26_0 hfz26_1 hfz26_2 hfz26_3 hfz26_4 hfz26_5 hfz26_6 hfz26_7 hfz26_8
          try clear hfz28_0 hfz28_1 hfz28_2 hfz28_3 hfz28_4 hfz28_5 hfz28_6 hfz28_7 hfz28_8
          try clear hfz29_0 hfz29_1 hfz29_2 hfz29_3 hfz29_4 hfz29_5 hfz29_6 hfz29_7 hfz29_8
          try clear hfz31_0 hfz31_1 hfz31_2 hfz31_3 hfz31_4 hfz31_5 hfz31_6 hfz31_7 hfz31_8
          try clear hfz32_0 hfz32_1 hfz32_2 hfz32_3 hfz32_4 hfz32_5 hfz32_6 hfz32_7 hfz32_8
          try clear hfz39_0 hfz39_1 hfz39_2 hfz39_3 hfz39_4 hfz39_5 hfz39_6 hfz39_7 hfz39_8
          try clear hfz40_0 hfz40_1 hfz40_2 hfz40_3 hfz40_4 hfz40_5 hfz40_6 hfz40_7 hfz40_8
          try clear hfz42_0 hfz42_1 hfz42_2 hfz42_3 hfz42_4 hfz42_5 hfz42_6 hfz42_7 hfz42_8
          try clear hfz43_0 hfz43_1 hfz43_2 hfz43_3 hfz43_4 hfz43_5 hfz43_6 hfz43_7 hfz43_8
          try clear hfz45_0 hfz45_1 hfz45_2 hfz45_3 hfz45_4 hfz45_5 hfz45_6 hfz45_7 hfz45_8
          try clear hfz9_0 hfz9_1 hfz9_2 hfz9_3 hfz9_4 hfz9_5 hfz9_6 hfz9_7 hfz9_8
          try clear hx281_0
          try clear hx281_1
          try clear hx281_2
          try clear hx282_0
          try clear hx282_1
          try clear hx282_2
          try clear p2
          try clear p281
          try clear p282
          try clear q281
          try clear q282
          (try clear BK279); (try clear BK280)
          obtain ⟨x6_3, rfl, HA, HK3, BK279, BK280, HB⟩ := hrel
          cases gk with
          | zero => exact absurd HA.out (by simp [althingref05_Same.l1])
          | succ k3 =>
           have H := HA.out
           clear HA
           simp only [althingref05_Same.l1] at H
           by_cases c46 : x6_3 < (l0_7.length : Int)
           · rw [if_pos c46] at H
             have c46b0 : decide (x6_3 < (l0_7.length : Int)) = true := decide_eq_true c46
             clear c46
             by_cases c47 : 0 ≤ x6_3
             · rw [if_pos c47] at H
               have c47b0 : decide (0 ≤ x6_3) = true := decide_eq_true c47
               clear c47
               by_cases c48 : x6_3 < (l1_7.length : Int)
               · rw [if_pos c48] at H
                 have c48b0 : decide (x6_3 < (l1_7.length : Int)) = true := decide_eq_true c48
                 clear c48
                 by_cases c49 : (!((((rd_T40 l0_7 x6_3).f0).toList) == (((rd_T40 l1_7 x6_3).f0).toList)) || (!((((rd_T40 l0_7 x6_3).f1).toList) == (((rd_T40 l1_7 x6_3).f1).toList)))) = true
                 · rw [if_pos c49] at H
                   have c49b0 : (!((((rd_T40 l0_7 x6_3).f0).toList) == (((rd_T40 l1_7 x6_3).f0).toList)) || (!((((rd_T40 l0_7 x6_3).f1).toList) == (((rd_T40 l1_7 x6_3).f1).toList)))) = true := c49
                   clear c49
                   obtain rfl := Option.some.inj H
                   have hnb50 := NB279_280.out
                   have hnc50 := NB280_279.out
                   refine blk9_ BK279.out fun hcz51_0 hcz51_1 hcz51_2 hcz51_3 hcz51_4 hcz51_5 hcz51_6 hcz51_7 hcz51_8 hfz51_0 hfz51_1 hfz51_2 hfz51_3 hfz51_4 hfz51_5 hfz51_6 hfz51_7 hfz51_8 => ?_
                   have p283 : 0 ≤ (x6_3 : Int) := of_decide_eq_true (by first | (with_reducible assumption) | assumption)
                   have q283 : x6_3 < (l0_7.length : Int) := of_decide_eq_true (by first | (with_reducible assumption) | assumption)
                   obtain ⟨ad283, e283, hx283_0, hx283_1⟩ := at_T40 HR0_7.out x6_3 p283 q283
                   cases e283
                   replace hx283_0 := (HB.out.cell (World.block_lt_of_cell? w _ hx283_0)).trans hx283_0
                   replace hx283_1 := (HB.out.cell (World.block_lt_of_cell? w _ hx283_1)).trans hx283_1
                   replace p283 := eq_true p283
                   replace q283 := eq_true q283
                   refine blk9_ BK280.out fun hcz52_0 hcz52_1 hcz52_2 hcz52_3 hcz52_4 hcz52_5 hcz52_6 hcz52_7 hcz52_8 hfz52_0 hfz52_1 hfz52_2 hfz52_3 hfz52_4 hfz52_5 hfz52_6 hfz52_7 hfz52_8 => ?_
                   have p284 : 0 ≤ (x6_3 : Int) := of_decide_eq_true (by first | (with_reducible assumption) | assumption)
                   have q284 : x6_3 < (l1_7.length : Int) := of_decide_eq_true (by first | (with_reducible assumption) | assumption)
                   obtain ⟨ad284, e284, hx284_0, hx284_1⟩ := at_T40 HR1_7.out x6_3 p284 q284
                   cases e284
                   replace hx284_0 := (HB.out.cell (World.block_lt_of_cell? w _ hx284_0)).trans hx284_0
                   replace hx284_1 := (HB.out.cell (World.block_lt_of_cell? w _ hx284_1)).trans hx284_1
                   replace p284 := eq_true p284
                   replace q284 := eq_true q284
                   go_wp2
                   repeat (go_quiet (fail); try go_wp2)
                   go_ret
                   exact ⟨by first | rfl | (simp [errW_none, errW_some] <;> rfl) | (simp [*, errW_none, errW_some] <;> rfl), by repeat (first | (with_reducible first | exact HB.out | apply below_alloc | apply pw_below_drewN | apply below_drew1 | refine below_set ?_ GE279.out | refine below_set ?_ GE280.out) | exact HB.out)⟩
                 · rw [if_neg c49] at H
                   have c49b0 : (!((((rd_T40 l0_7 x6_3).f0).toList) == (((rd_T40 l1_7 x6_3).f0).toList)) || (!((((rd_T40 l0_7 x6_3).f1).toList) == (((rd_T40 l1_7 x6_3).f1).toList)))) = false := by simpa using c49
                   clear c49
                   have H' := Aside0.mk H
                   clear H
                   have hnb53 := NB279_280.out
                   have hnc53 := NB280_279.out
                   refine blk9_ BK279.out fun hcz54_0 hcz54_1 hcz54_2 hcz54_3 hcz54_4 hcz54_5 hcz54_6 hcz54_7 hcz54_8 hfz54_0 hfz54_1 hfz54_2 hfz54_3 hfz54_4 hfz54_5 hfz54_6 hfz54_7 hfz54_8 => ?_
                   have p283 : 0 ≤ (x6_3 : Int) := of_decide_eq_true (by first | (with_reducible assumption) | assumption)
                   have q283 : x6_3 < (l0_7.length : Int) := of_decide_eq_true (by first | (with_reducible assumption) | assumption)
                   obtain ⟨ad283, e283, hx283_0, hx283_1⟩ := at_T40 HR0_7.out x6_3 p283 q283
                   cases e283
                   replace hx283_0 := (HB.out.cell (World.block_lt_of_cell? w _ hx283_0)).trans hx283_0
                   replace hx283_1 := (HB.out.cell (World.block_lt_of_cell? w _ hx283_1)).trans hx283_1
                   replace p283 := eq_true p283
                   replace q283 := eq_true q283
                   refine blk9_ BK280.out fun hcz55_0 hcz55_1 hcz55_2 hcz55_3 hcz55_4 hcz55_5 hcz55_6 hcz55_7 hcz55_8 hfz55_0 hfz55_1 hfz55_2 hfz55_3 hfz55_4 hfz55_5 hfz55_6 hfz55_7 hfz55_8 => ?_
                   have p284 : 0 ≤ (x6_3 : Int) := of_decide_eq_true (by first | (with_reducible assumption) | assumption)
                   have q284 : x6_3 < (l1_7.length : Int) := of_decide_eq_true (by first | (with_reducible assumption) | assumption)
                   obtain ⟨ad284, e284, hx284_0, hx284_1⟩ := at_T40 HR1_7.out x6_3 p284 q284
                   cases e284
                   replace hx284_0 := (HB.out.cell (World.block_lt_of_cell? w _ hx284_0)).trans hx284_0
                   replace hx284_1 := (HB.out.cell (World.block_lt_of_cell? w _ hx284_1)).trans hx284_1
                   replace p284 := eq_true p284
                   replace q284 := eq_true q284
                   go_wp2
                   repeat (go_quiet (fail); try go_wp2)
                   go_roundg k3
                   case measure => have := HJ2.out; have := HK2.out; have := HK3.out; omega
                   case rel => exact ⟨(wrap64 (x6_3 + 1)), (by first | rfl | (simp; done) | (simp [*]; done)), H', ⟨by have := HJ2.out; have := HK2.out; have := HK3.out; omega⟩, ⟨by (with_reducible repeat (first | refine blk_drewN ?_ _ | refine blk_drew ?_ | refine blk_alloc ?_ _)); exact BK279.out⟩, ⟨by (with_reducible repeat (first | refine blk_drewN ?_ _ | refine blk_drew ?_ | refine blk_alloc ?_ _)); exact BK280.out⟩, ⟨by repeat (first | (with_reducible first | exact HB.out | apply below_alloc | apply pw_below_drewN | apply below_drew1 | refine below_set ?_ GE279.out | refine below_set ?_ GE280.out) | exact HB.out)⟩⟩
               · rw [if_neg c48] at H
                 exact absurd H (by simp)
             · rw [if_neg c47] at H
               exact absurd H (by simp)
           · rw [if_neg c46] at H
             have c46b0 : decide (x6_3 < (l0_7.length : Int)) = false := decide_eq_false c46
             clear c46
             obtain rfl := Option.some.inj H
             have hnb56 := NB279_280.out
             have hnc56 := NB280_279.out
             refine blk9_ BK279.out fun hcz57_0 hcz57_1 hcz57_2 hcz57_3 hcz57_4 hcz57_5 hcz57_6 hcz57_7 hcz57_8 hfz57_0 hfz57_1 hfz57_2 hfz57_3 hfz57_4 hfz57_5 hfz57_6 hfz57_7 hfz57_8 => ?_
             go_wp2
             repeat (go_quiet (fail); try go_wp2)
             go_ret
             exact ⟨by first | rfl | (simp [errW_none, errW_some] <;> rfl) | (simp [*, errW_none, errW_some] <;> rfl), by repeat (first | (with_reducible first | exact HB.out | apply below_alloc | apply pw_below_drewN | apply below_drew1 | refine below_set ?_ GE279.out | refine below_set ?_ GE280.out) | exact HB.out)⟩
end Go.Proofs.Ytnjeeedndnfglaa.X
end
section
namespace Go.Proofs.Ytnjeeedndnfglaa.Strs
open Go.RowKit Go.Proofs.Ytnjeeedndnfglaa.Keys Go.Proofs.YtnjeeedndnfglaaW.PrintWords Go.Proofs.YtnjeeedndnfglaaW.PrintLast Go.Proofs.YtnjeeedndnfglaaW.PrintMore Go.Proofs.Ytnjeeedndnfglaa.X
set_option linter.unusedSimpArgs false
set_option linter.unusedVariables false
/-- Is a key the shard's? -/
def ofK (sh n : Int) (x : ByteArray) : Bool := decide (shardE x n = 0) && decide (shardN x n = sh)
def ofR (sh n : Int) (r : List Rd) : List Rd := r.filter (fun x => ofK sh n x.f0)
def ofW (sh n : Int) (w : List Wr) : List Wr := w.filter (fun x => ofK sh n x.f0)
abbrev PR := Int × Int × Int × Int × Int × Int × List Rd × List Wr × Bool × Int
def partEnd (a b c d e s : Int) (r : List Rd) (w : List Wr) (m : Bool) : PR := if r.length + w.length = 0 then (0, 0, 0, 0, 0, 0, [], [], false, 10) else (a, b, c, d, e, s, r, w, m, 0)
section
variable (a b c d e s : Int) (r : List Rd) (w : List Wr) (m : Bool) (sh n : Int)
theorem part_l1 (r1 : List Rd) (hr : r1.length ≤ 100) (hw : w.length ≤ 100) : ∀ dd i, i + dd = w.length → Ev (fun k => command_Part.l1 k w (w.length : Int) (i : Int) sh n a b c d e s r1 (ofW sh n (w.take i)) m) (partEnd a b c d e s r1 (ofW sh n w) m)
  | 0, i, hi => by
    refine Ev.step (f := fun _ => some (partEnd a b c d e s r1 (ofW sh n w) m)) (fun k => ?_) (Ev.const rfl)
    have hl : (ofW sh n w).length ≤ w.length := List.length_filter_le _ _
    simp only [command_Part.l1]
    rw [if_neg (by omega), show i = w.length by omega, List.take_length, show wrap64 ((r1.length : Int) + ((ofW sh n w).length : Int)) = ((r1.length + (ofW sh n w).length : Nat) : Int) by unfold wrap64; omega]
    unfold partEnd
    by_cases h : r1.length + (ofW sh n w).length = 0
    · rw [if_pos (by omega), if_pos h]
    · rw [if_neg (by omega), if_neg h]
  | dd + 1, i, hi => by
    have hil : i < w.length := by omega
    have hl : (ofW sh n (w.take i)).length ≤ (w.take i).length := List.length_filter_le _ _
    rw [List.length_take] at hl
    have ht : ofW sh n (w.take (i + 1)) = ofW sh n (w.take i) ++ (if ofK sh n w[i].f0 = true then [w[i]] else []) := by
      unfold ofW
      rw [List.take_succ_eq_append_getElem hil, List.filter_append]
      congr 1
      cases h : ofK sh n w[i].f0 <;> simp [h]
    refine Ev.step (fun k => ?_) (part_l1 r1 hr hw dd (i + 1) (by omega))
    simp only [command_Part.l1]
    rw [if_pos (by omega), if_pos (by omega), if_pos (by omega), ht, rdW w i hil, w1 i (by omega)]
    simp only [command_Part_1.f, Option.bind_some]
    cases h : ofK sh n w[i].f0 with
    | true =>
      have h2 := h
      unfold ofK at h2
      rw [h2, if_pos rfl, if_pos (by omega), if_pos rfl]
    | false =>
      have h2 := h
      unfold ofK at h2
      rw [h2, if_neg (by simp), if_neg (by simp), List.append_nil]
theorem part_l0 (hr : r.length ≤ 100) (hw : w.length ≤ 100) : ∀ dd i, i + dd = r.length → Ev (fun k => command_Part.l0 k r (r.length : Int) (i : Int) a b c d e s r w m sh n a b c d e s (ofR sh n (r.take i)) m) (partEnd a b c d e s (ofR sh n r) (ofW sh n w) m)
  | 0, i, hi => by
    have hl : (ofR sh n r).length ≤ r.length := List.length_filter_le _ _
    refine Ev.step (fun k => ?_) (part_l1 a b c d e s w m sh n (ofR sh n r) (by omega) hw w.length 0 (by omega))
    simp only [command_Part.l0]
    rw [if_neg (by omega), show i = r.length by omega, List.take_length]
    rfl
  | dd + 1, i, hi => by
    have hil : i < r.length := by omega
    have hl : (ofR sh n (r.take i)).length ≤ (r.take i).length := List.length_filter_le _ _
    rw [List.length_take] at hl
    have ht : ofR sh n (r.take (i + 1)) = ofR sh n (r.take i) ++ (if ofK sh n r[i].f0 = true then [r[i]] else []) := by
      unfold ofR
      rw [List.take_succ_eq_append_getElem hil, List.filter_append]
      congr 1
      cases h : ofK sh n r[i].f0 <;> simp [h]
    refine Ev.step (fun k => ?_) (part_l0 hr hw dd (i + 1) (by omega))
    simp only [command_Part.l0]
    rw [if_pos (by omega), if_pos (by omega), if_pos (by omega), ht, rdR r i hil, w1 i (by omega)]
    simp only [command_Part_1.f, Option.bind_some]
    cases h : ofK sh n r[i].f0 with
    | true =>
      have h2 := h
      unfold ofK at h2
      rw [h2, if_pos rfl, if_pos (by omega), if_pos rfl]
    | false =>
      have h2 := h
      unfold ofK at h2
      rw [h2, if_neg (by simp), if_neg (by simp), List.append_nil]
def errEnd : PR := (0, 0, 0, 0, 0, 0, [], [], false, 1)
/-- What a shard has of a command. -/
def partB : PR := if rightB a b c d e s r w m = true ∧ a ≠ 0 ∧ 1 ≤ n ∧ n ≤ 4 then partEnd a b c d e s (ofR sh n r) (ofW sh n w) m else errEnd
theorem part_j0 (h : small r w) (x : Bool) : Ev (fun k => command_Part.j0 k x a b c d e s r w m sh n) (if x = true then errEnd else partEnd a b c d e s (ofR sh n r) (ofW sh n w) m) := by
  cases x with
  | true =>
    refine Ev.step (f := fun _ => some errEnd) (fun k => ?_) (Ev.const (by simp))
    simp only [command_Part.j0]; rw [if_pos trivial]; rfl
  | false =>
    refine Ev.step (fun k => ?_) (by simpa using part_l0 a b c d e s r w m sh n (by have := h.1; omega) (by have := h.2.1; omega) r.length 0 (by omega))
    simp only [command_Part.j0]; rw [if_neg (by simp)]; rfl
theorem part_is (h : small r w) : Ev (fun k => command_Part.f k a b c d e s r w m sh n) (partB a b c d e s r w m sh n) := by
  unfold partB command_Part.f
  have hq := right_is a b c d e s r w m h
  cases hR : rightB a b c d e s r w m with
  | false =>
    simp only [Bool.false_eq_true, false_and, ↓reduceIte]
    exact Ev.bindF (hR ▸ hq) (by simpa using part_j0 a b c d e s r w m sh n h true)
  | true =>
    rw [hR] at hq
    by_cases h0 : a = 0
    · simp only [h0, ne_eq, not_true_eq_false, false_and, and_false, ↓reduceIte]
      rw [h0] at hq
      exact Ev.bindT hq (by simpa using part_j0 0 b c d e s r w m sh n h true)
    · by_cases h1 : n < 1
      · simp only [h0, h1, show ¬ 1 ≤ n by omega, false_and, and_false, ↓reduceIte]
        exact Ev.bindT hq (by simpa using part_j0 a b c d e s r w m sh n h true)
      · by_cases h4 : n > 4
        · simp only [h0, h1, show ¬ n ≤ 4 by omega, and_false, ↓reduceIte, decide_eq_true h4]
          exact Ev.bindT hq (by simpa using part_j0 a b c d e s r w m sh n h true)
        · simp only [h0, h1, show 1 ≤ n by omega, show n ≤ 4 by omega, ne_eq, not_false_eq_true, and_self, ↓reduceIte, decide_eq_false h4]
          exact Ev.bindT hq (by simpa using part_j0 a b c d e s r w m sh n h false)
theorem all_okR : (List.range r.length).all (okR d e r) = r.all (oldB d e) := by
  rw [Bool.eq_iff_iff, List.all_eq_true, List.all_eq_true]
  constructor
  · intro h x hx
    obtain ⟨i, hi, rfl⟩ := List.getElem_of_mem hx
    have := h i (by simpa using hi)
    unfold okR at this
    rwa [rdR r i hi] at this
  · intro h i hi
    have hil : i < r.length := by simpa using hi
    unfold okR
    rw [rdR r i hil]
    exact h _ (List.getElem_mem hil)
theorem all_okW : (List.range w.length).all (okW w) = w.all (fun x => decide (x.f1.size ≤ 8)) := by
  rw [Bool.eq_iff_iff, List.all_eq_true, List.all_eq_true]
  constructor
  · intro h x hx
    obtain ⟨i, hi, rfl⟩ := List.getElem_of_mem hx
    have := h i (by simpa using hi)
    unfold okW at this
    rwa [rdW w i hi] at this
  · intro h i hi
    have hil : i < w.length := by simpa using hi
    unfold okW
    rw [rdW w i hil]
    exact h _ (List.getElem_mem hil)
theorem rights_sub {l l' : List ByteArray} (hs : l'.Sublist l) (h : rightsB l = true) : rightsB l' = true := by
  rw [rightsB_iff] at h ⊢
  exact ⟨fun x hx => h.1 x (hs.subset hx), h.2.1.sublist hs, Nat.le_trans hs.length_le h.2.2⟩
theorem tail_sub {r' : List Rd} {w' : List Wr} (hr : r'.Sublist r) (hw : w'.Sublist w) (h : tailB d e r w = true) : tailB d e r' w' = true := by
  unfold tailB at h ⊢
  rw [all_okR, all_okW] at h ⊢
  simp only [Bool.and_eq_true, List.all_eq_true] at h ⊢
  exact ⟨fun x hx => h.1 x (hr.subset hx), fun x hx => h.2.1 x (hw.subset hx), rights_sub (hr.map _) h.2.2.1, rights_sub (hw.map _) h.2.2.2⟩
/-- What has some of a command's reads and writes may be a command. -/
theorem right_sub {r' : List Rd} {w' : List Wr} (hr : r'.Sublist r) (hw : w'.Sublist w) (h0 : a ≠ 0) (hne : r'.length + w'.length ≠ 0) (h : rightB a b c d e s r w m = true) : rightB a b c d e s r' w' m = true := by
  unfold rightB at h ⊢
  rw [if_neg h0] at h ⊢
  by_cases h1 : a = 1 ∨ a = 2
  · rw [if_pos h1, Bool.and_eq_true] at h ⊢
    refine ⟨?_, tail_sub d e r w hr hw h.2⟩
    have hp := h.1
    unfold preB at hp ⊢
    simp only [Bool.and_eq_true, decide_eq_true_eq] at hp ⊢
    exact ⟨⟨hp.1.1, hne⟩, hp.2⟩
  · rw [if_neg h1] at h; cases h
theorem small_sub {r' : List Rd} {w' : List Wr} (hr : r'.Sublist r) (hw : w'.Sublist w) (h : small r w) : small r' w' :=
  ⟨Nat.le_trans hr.length_le h.1, Nat.le_trans hw.length_le h.2.1, fun x hx => h.2.2.1 x (hr.subset hx), fun x hx => h.2.2.2 x (hw.subset hx)⟩
theorem ofR_sub : (ofR sh n r).Sublist r := List.filter_sublist
theorem ofW_sub : (ofW sh n w).Sublist w := List.filter_sublist
end
end Go.Proofs.Ytnjeeedndnfglaa.Strs
end
section
namespace Go.Proofs.Ytnjeeedndnfglaa.Strs
open Go.RowKit Go.Proofs.YtnjeeedndnfglaaW.PrintWords Go.Proofs.YtnjeeedndnfglaaW.PrintLast Go.Proofs.YtnjeeedndnfglaaW.PrintMore Go.Proofs.Ytnjeeedndnfglaa.X
set_option linter.unusedSimpArgs false
set_option linter.unusedVariables false
theorem before_l0 (a b : ByteArray) (hb : b.size ≤ 2000) : ∀ d i k, i + d = b.size → i ≤ a.size → a.data.toList.take i = b.data.toList.take i → d + 1 ≤ k →
    althingref04_Before.l0 k a b (i : Int) = some (decide (a.data.toList.drop i < b.data.toList.drop i))
  | 0, i, k, h1, h2, h3, hk => by
    obtain ⟨k, rfl⟩ : ∃ k', k = k' + 1 := ⟨k - 1, by omega⟩
    unfold althingref04_Before.l0
    have hd : b.data.toList.drop i = [] := List.drop_eq_nil_of_le (by rw [← sz_len]; omega)
    rw [if_neg (by omega), hd]
    simp
  | d + 1, i, k, h1, h2, h3, hk => by
    obtain ⟨k, rfl⟩ : ∃ k', k = k' + 1 := ⟨k - 1, by omega⟩
    have hbl : i < b.data.toList.length := by rw [← sz_len]; omega
    unfold althingref04_Before.l0
    rw [if_pos (by omega), drop_at _ i hbl]
    by_cases hia : i = a.size
    · have hd : a.data.toList.drop i = [] := List.drop_eq_nil_of_le (by rw [← sz_len]; omega)
      rw [if_pos (by omega), hd]
      simp
    · have hal : i < a.data.toList.length := by rw [← sz_len]; omega
      rw [if_neg (by omega), if_pos (by omega), if_pos (by omega), bt_el a i hal, bt_el b i hbl, drop_at _ i hal]
      by_cases he : a.data.toList[i] = b.data.toList[i]
      · rw [if_pos (by rw [he]), show wrap64 ((i : Int) + 1) = ((i + 1 : Nat) : Int) by unfold wrap64; omega]
        rw [before_l0 a b hb d (i + 1) k (by omega) (by omega) (by rw [List.take_succ_eq_append_getElem hal, List.take_succ_eq_append_getElem hbl, h3, he]) (by omega)]
        congr 1
        rw [decide_eq_decide, List.cons_lt_cons_iff, he]
        constructor
        · intro h; exact .inr ⟨rfl, h⟩
        · rintro (h | h)
          · exact absurd h (by simp)
          · exact h.2
      · have hne : (a.data.toList[i]).toNat ≠ (b.data.toList[i]).toNat := fun e => he (UInt8.toNat_inj.1 e)
        rw [if_neg (by omega)]
        congr 1
        rw [decide_eq_decide, List.cons_lt_cons_iff]
        constructor
        · intro h; exact .inl (UInt8.lt_iff_toNat_lt.2 (by omega))
        · rintro (h | h)
          · have := UInt8.lt_iff_toNat_lt.1 h; omega
          · exact absurd h.1 he
theorem before_is (a b : ByteArray) (hb : b.size ≤ 2000) (k : Nat) (hk : 2001 ≤ k) : althingref04_Before.f k a b = some (decide (blt a b)) := by
  have := before_l0 a b hb b.size 0 k (by omega) (by omega) (by simp) (by omega)
  simpa [althingref04_Before.f, blt] using this
theorem in_l0 (l : List ByteArray) (x : ByteArray) (hl : l.length ≤ 2000) : ∀ d i k, i + d = l.length → d + 1 ≤ k → althingref04_In.l0 k l x (i : Int) = some (inB (l.drop i) x)
  | 0, i, k, h1, hk => by
    obtain ⟨k, rfl⟩ : ∃ k', k = k' + 1 := ⟨k - 1, by omega⟩
    unfold althingref04_In.l0
    rw [if_neg (by omega), List.drop_eq_nil_of_le (by omega)]
    rfl
  | d + 1, i, k, h1, hk => by
    obtain ⟨k, rfl⟩ : ∃ k', k = k' + 1 := ⟨k - 1, by omega⟩
    have hil : i < l.length := by omega
    have e : rdOf ByteArray.empty l (i : Int) = l[i] := by unfold rdOf; rw [Int.toNat_natCast]; simp [List.getD_eq_getElem?_getD, hil]
    unfold althingref04_In.l0
    rw [if_pos (by omega), if_pos (by omega), e, List.drop_eq_getElem_cons hil]
    by_cases hx : l[i] = x
    · rw [if_pos (by rw [hx]), hx]; simp [inB]
    · have hne : ¬ l[i].data.toList = x.data.toList := fun e => hx (bytes_ext e)
      rw [if_neg (by rw [toList_eq, toList_eq]; exact hne), show wrap64 ((i : Int) + 1) = ((i + 1 : Nat) : Int) by unfold wrap64; omega, in_l0 l x hl d (i + 1) k (by omega) (by omega)]
      unfold inB
      rw [List.any_cons, decide_eq_false hne, Bool.false_or]
theorem in_is (l : List ByteArray) (x : ByteArray) (hl : l.length ≤ 2000) (k : Nat) (hk : 2001 ≤ k) : althingref04_In.f k l x = some (inB l x) := by
  have := in_l0 l x hl l.length 0 k (by omega) (by omega)
  simpa [althingref04_In.f] using this
end Go.Proofs.Ytnjeeedndnfglaa.Strs
end
section
namespace Go.Proofs.Ytnjeeedndnfglaa.Strs
open Go.RowKit Go.Proofs.Ytnjeeedndnfglaa.Keys Go.Proofs.YtnjeeedndnfglaaW.PrintWords Go.Proofs.YtnjeeedndnfglaaW.PrintLast Go.Proofs.YtnjeeedndnfglaaW.PrintMore Go.Proofs.Ytnjeeedndnfglaa.X
set_option linter.unusedSimpArgs false
set_option linter.unusedVariables false
theorem rright_f (x : ByteArray) : althingref04_Right.f x = some (okKey x) := by
  unfold althingref04_Right.f okKey
  by_cases h : (x.size : Int) > 0
  · rw [if_pos h]; congr 1; rw [decide_eq_decide]; omega
  · rw [if_neg h]; congr 1; symm; rw [decide_eq_false_iff_not]; omega
theorem rrights_is (l : List ByteArray) (hl : l.length ≤ 2000) (hz : ∀ x ∈ l, x.size ≤ 2000) : Ev (fun k => althingref04_Rights.f k l) (rightsB l) := by
  have hzg : ∀ i, (l.getD i ByteArray.empty).size ≤ 2000 := fun i => by
    by_cases hi : i < l.length
    · rw [getD_at l i hi]; exact hz _ (List.getElem_mem hi)
    · rw [List.getD_eq_getElem?_getD, List.getElem?_eq_none (by omega)]; decide
  refine Ev.scan (F := fun k i => althingref04_Rights.l0 k l i) l.length (okAt l) _ (fun i hi hok r hr => ?_) (fun i hi hok => ?_) ?_
  · unfold okAt at hok
    rw [Bool.and_eq_true] at hok
    by_cases h0 : i = 0
    · refine Ev.step (fun k => ?_) hr
      simp only [althingref04_Rights.l0]
      rw [if_pos (by omega), if_pos (by omega), rright_f, Option.bind_some, rd_getD, hok.1, if_pos rfl, if_neg (by omega), w1 i (by omega)]
    · have hb : blt (l.getD (i - 1) ByteArray.empty) (l.getD i ByteArray.empty) := by simpa [h0] using hok.2
      refine Ev.step (f := fun k => (althingref04_Before.f k (l.getD (i - 1) ByteArray.empty) (l.getD i ByteArray.empty)).bind fun t => if t = true then althingref04_Rights.l0 k l ((i + 1 : Nat) : Int) else some false) (fun k => ?_) (Ev.bind (a := true) ⟨2001, fun k hk => ?_⟩ (Ev.congr (fun k => if_pos rfl) hr))
      · simp only [althingref04_Rights.l0]
        rw [if_pos (by omega), if_pos (by omega), rright_f, Option.bind_some, rd_getD, hok.1, if_pos rfl, if_pos (by omega), wm1 i (by omega) h0, if_pos (by omega), if_pos (by omega), rd_getD, w1 i (by omega)]
      · show althingref04_Before.f k _ _ = _
        rw [before_is _ _ (hzg i) k hk, decide_eq_true hb]
  · unfold okAt at hok
    cases ho : okKey (l.getD i ByteArray.empty) with
    | false =>
      refine Ev.step (f := fun _ => some false) (fun k => ?_) (Ev.const rfl)
      simp only [althingref04_Rights.l0]
      rw [if_pos (by omega), if_pos (by omega), rright_f, Option.bind_some, rd_getD, ho, if_neg (by simp)]
    | true =>
      rw [ho, Bool.true_and, Bool.or_eq_false_iff, decide_eq_false_iff_not, decide_eq_false_iff_not] at hok
      refine Ev.step (f := fun k => (althingref04_Before.f k (l.getD (i - 1) ByteArray.empty) (l.getD i ByteArray.empty)).bind fun t => if t = true then althingref04_Rights.l0 k l ((i + 1 : Nat) : Int) else some false) (fun k => ?_) (Ev.bind (a := false) ⟨2001, fun k hk => ?_⟩ (Ev.congr (fun k => if_neg (by simp)) (Ev.const rfl)))
      · simp only [althingref04_Rights.l0]
        rw [if_pos (by omega), if_pos (by omega), rright_f, Option.bind_some, rd_getD, ho, if_pos rfl, if_pos (by omega), wm1 i (by omega) hok.1, if_pos (by omega), if_pos (by omega), rd_getD, w1 i (by omega)]
      · show althingref04_Before.f k _ _ = _
        rw [before_is _ _ (hzg i) k hk, decide_eq_false hok.2]
  · refine Ev.step (f := fun _ => some (decide ((l.length : Int) ≤ 8))) (fun k => ?_) (Ev.const ?_)
    · simp only [althingref04_Rights.l0]
      rw [if_neg (by omega)]
    · congr 1; rw [decide_eq_decide]; omega
end Go.Proofs.Ytnjeeedndnfglaa.Strs
end
section
namespace Go.Proofs.Ytnjeeedndnfglaa.Strs
open Go.RowKit Go.Proofs.YtnjeeedndnfglaaW.PrintWords Go.Proofs.YtnjeeedndnfglaaW.PrintLast Go.Proofs.YtnjeeedndnfglaaW.PrintMore Go.Proofs.Ytnjeeedndnfglaa.X
set_option linter.unusedSimpArgs false
set_option linter.unusedVariables false
theorem join_l1 (l : List ByteArray) (hl : l.length ≤ 80) (hz : ∀ x ∈ l, x.size ≤ 2000) (i : Nat) (hi : i < l.length) (K : Nat)
    (h0 : ∀ out k, out.Pairwise blt → (∀ x, x ∈ out ↔ x ∈ l.take (i + 1)) → out.length ≤ i + 1 → K ≤ k → ∃ r, althingref04_Join.l0 k out l ((i + 1 : Nat) : Int) = some r ∧ JoinedTo l r)
    (out : List ByteArray) (hs : out.Pairwise blt) (hm : ∀ x, x ∈ out ↔ x ∈ l.take i) (hn : out.length ≤ i) (hx : l[i] ∉ out) :
    ∀ d q k, q + d = out.length → (∀ y ∈ out.take q, blt y l[i]) → K + 2001 + d + 1 ≤ k → ∃ r, althingref04_Join.l1 k out l (i : Int) (q : Int) = some r ∧ JoinedTo l r := by
  have hmem : ∀ q y, y ∈ out.take q ++ [l[i]] ++ out.drop q ↔ y ∈ l.take (i + 1) := fun q y => by
    rw [ins_mem, hm, List.take_succ_eq_append_getElem hi, List.mem_append, List.mem_singleton]
  have hw : wrap64 ((i : Int) + 1) = ((i + 1 : Nat) : Int) := by unfold wrap64; omega
  intro d
  induction d with
  | zero =>
    intro q k hq hlow hk
    obtain ⟨k, rfl⟩ : ∃ k', k = k' + 1 := ⟨k - 1, by omega⟩
    obtain rfl : q = out.length := by omega
    have hd : out.drop out.length = [] := List.drop_eq_nil_of_le (Nat.le_refl _)
    obtain ⟨r, hr, hj⟩ := h0 (out.take out.length ++ [l[i]] ++ out.drop out.length) k (ins_sorted out l[i] out.length hs hlow (by rw [hd]; simp)) (hmem _) (by rw [ins_len]; omega) (by omega)
    refine ⟨r, ?_, hj⟩
    unfold althingref04_Join.l1
    rw [if_neg (by omega)]
    simp only [Option.bind_some, Int.toNat_natCast, List.nil_append, rd_el l i hi]
    rw [if_pos (by omega), if_pos (by omega), if_pos (by simp), if_pos (by omega), if_pos (by omega), if_pos (by simp; omega), if_pos (by simp; omega), hw]
    exact hr
  | succ d ih =>
    intro q k hq hlow hk
    obtain ⟨k, rfl⟩ : ∃ k', k = k' + 1 := ⟨k - 1, by omega⟩
    have hql : q < out.length := by omega
    unfold althingref04_Join.l1
    rw [if_pos (by omega), if_pos (by omega), if_pos (by omega), if_pos (by omega), rd_el l i hi, rd_el out q hql, before_is _ _ (hz _ (List.getElem_mem hi)) k (by omega)]
    simp only [Option.bind_some]
    by_cases hb : blt out[q] l[i]
    · rw [if_pos (decide_eq_true hb), show wrap64 ((q : Int) + 1) = ((q + 1 : Nat) : Int) by unfold wrap64; omega]
      refine ih (q + 1) k (by omega) ?_ (by omega)
      intro y hy
      rw [List.take_succ_eq_append_getElem hql, List.mem_append, List.mem_singleton] at hy
      rcases hy with hy | rfl
      · exact hlow y hy
      · exact hb
    · rw [if_neg (by rw [decide_eq_true_eq]; exact hb)]
      obtain ⟨r, hr, hj⟩ := h0 (out.take q ++ [l[i]] ++ out.drop q) k (ins_sorted out l[i] q hs hlow (head_below out l[i] q hs hql hx hb)) (hmem _) (by rw [ins_len]; omega) (by omega)
      refine ⟨r, ?_, hj⟩
      simp only [Int.toNat_natCast, List.nil_append]
      rw [if_pos (by omega), if_pos (by simp; omega), if_pos (by simp; omega), if_pos (by simp; omega), hw]
      exact hr
theorem join_l0 (l : List ByteArray) (hl : l.length ≤ 80) (hz : ∀ x ∈ l, x.size ≤ 2000) : ∀ d i, i + d = l.length → ∃ K, ∀ out k, out.Pairwise blt → (∀ x, x ∈ out ↔ x ∈ l.take i) → out.length ≤ i → K ≤ k → ∃ r, althingref04_Join.l0 k out l (i : Int) = some r ∧ JoinedTo l r
  | 0, i, h => ⟨1, fun out k hs hm hn hk => by
      obtain ⟨k, rfl⟩ : ∃ k', k = k' + 1 := ⟨k - 1, by omega⟩
      refine ⟨out, ?_, hs, fun x => by rw [hm, List.take_of_length_le (by omega)]⟩
      unfold althingref04_Join.l0
      rw [if_neg (by omega)]⟩
  | d + 1, i, h => by
    obtain ⟨K, hK⟩ := join_l0 l hl hz d (i + 1) (by omega)
    have hi : i < l.length := by omega
    refine ⟨K + 2001 + i + 3, fun out k hs hm hn hk => ?_⟩
    obtain ⟨k, rfl⟩ : ∃ k', k = k' + 1 := ⟨k - 1, by omega⟩
    unfold althingref04_Join.l0
    rw [if_pos (by omega), if_pos (by omega), rd_el l i hi, in_is out _ (by omega) k (by omega)]
    simp only [Option.bind_some]
    by_cases hx : l[i] ∈ out
    · rw [if_pos ((inB_iff _ _).2 hx), show wrap64 ((i : Int) + 1) = ((i + 1 : Nat) : Int) by unfold wrap64; omega]
      refine hK out k hs (fun x => ?_) (by omega) (by omega)
      rw [List.take_succ_eq_append_getElem hi, List.mem_append, List.mem_singleton, hm]
      constructor
      · exact .inl
      · rintro (h | rfl)
        · exact h
        · exact (hm _).1 hx
    · rw [if_neg (fun e => hx ((inB_iff _ _).1 e))]
      exact join_l1 l hl hz i hi K (fun out k a b c d => hK out k a b c d) out hs hm hn hx out.length 0 k (by omega) (by simp) (by omega)
theorem refJoin_is (a b : List ByteArray) (ha : few a) (hb : few b) : ∃ K, ∀ k, K ≤ k → ∃ r, althingref04_Join.f k a b = some r ∧ Joined a b r := by
  obtain ⟨K, hK⟩ := join_l0 (a ++ b) (by rw [List.length_append]; have := ha.1; have := hb.1; omega) (fun x hx => by rcases List.mem_append.1 hx with h | h; have := ha.2 x h; omega; have := hb.2 x h; omega) (a ++ b).length 0 (by omega)
  refine ⟨K, fun k hk => ?_⟩
  obtain ⟨r, hr, hj⟩ := hK [] k (by simp) (by simp) (by simp) hk
  refine ⟨r, ?_, hj.1, fun x => (hj.2 x).trans List.mem_append⟩
  unfold althingref04_Join.f
  simp only [Option.bind_some, List.nil_append, List.length_nil]
  have := ha.1
  have := hb.1
  rw [if_pos (by omega), if_pos (by omega)]
  exact hr
end Go.Proofs.Ytnjeeedndnfglaa.Strs
end
section
namespace Go.Proofs.Ytnjeeedndnfglaa.Strs
open Go.RowKit Go.Proofs.Ytnjeeedndnfglaa.Keys Go.Proofs.YtnjeeedndnfglaaW.PrintWords Go.Proofs.YtnjeeedndnfglaaW.PrintLast Go.Proofs.YtnjeeedndnfglaaW.PrintMore Go.Proofs.Ytnjeeedndnfglaa.X
set_option linter.unusedSimpArgs false
set_option linter.unusedVariables false
theorem rjoin_ev (a b : List ByteArray) (ha : few a) (hb : few b) : Ev (fun k => althingref04_Join.f k a b) (joinB a b) := by
  obtain ⟨K, hK⟩ := refJoin_is a b ha hb
  refine ⟨K, fun k hk => ?_⟩
  obtain ⟨r, hr, hj⟩ := hK k hk
  show althingref04_Join.f k a b = _
  rw [hr, hj.unique (joinB_joined a b)]
theorem few_nil : few [] := ⟨by simp, by simp⟩
theorem few_sub {l l' : List ByteArray} (hs : l'.Sublist l) (h : few l) : few l' := ⟨Nat.le_trans hs.length_le h.1, fun x hx => h.2 x (hs.subset hx)⟩
theorem ref02_RightTxn_val (b c : Int) : althingref02_RightTxn.f b c = some (txnB b c) := by
  unfold althingref02_RightTxn.f txnB
  by_cases h1 : b ≥ 0 <;> by_cases h2 : b ≤ 3 <;> by_cases h3 : c ≥ 1 <;> by_cases h4 : c ≤ 1099511627776 <;> simp [h1, h2, h3, h4] <;> omega
theorem ref02_RightStamp_val (t c : Int) : althingref02_RightStamp.f t c = some (stampB t c) := by
  unfold althingref02_RightStamp.f stampB
  by_cases h1 : t ≥ 0 <;> by_cases h2 : t ≤ 1099511627776 <;> by_cases h3 : c ≥ 0 <;> by_cases h4 : c ≤ 3 <;> simp [h1, h2, h3, h4] <;> omega
theorem ref02_Before_val (a b c d : Int) : althingref02_Before.f a b c d = some (decide (ordI a b c d < 0)) := by
  unfold althingref02_Before.f althingref02_Order.f ordI
  by_cases h1 : a < c
  · simp [h1]
  · by_cases h2 : a > c
    · simp [h1, h2, show ¬ a = c by omega]
    · have h3 : a = c := by omega
      subst h3
      by_cases h4 : b < d
      · simp [h4]
      · by_cases h5 : b > d
        · simp [h4, h5, show ¬ b = d by omega]
        · simp [h4, h5, show b = d by omega]
section
variable (a b c d e s : Int) (r : List Rd) (w : List Wr) (m : Bool)
theorem keys_few (h : small r w) : few (keysB r w) := by
  refine ⟨?_, fun x hx => ?_⟩
  · have := joinB_len (rk r) (wk w)
    have := h.1
    have := h.2.1
    have e1 : (rk r).length = r.length := by unfold rk; rw [List.length_map]
    have e2 : (wk w).length = w.length := by unfold wk; rw [List.length_map]
    unfold keysB; omega
  · rcases joinB_mem hx with h1 | h1
    · exact (rk_few h).2 x h1
    · exact (wk_few h).2 x h1
theorem joinB_flat (l m : List ByteArray) : joinB (l ++ m) [] = joinB l m :=
  Joined.unique (a := l) (b := m) ⟨(joinB_joined (l ++ m) []).1, fun x => by rw [(joinB_joined (l ++ m) []).2 x, List.mem_append]; simp⟩ (joinB_joined l m)
theorem rkeys_l1 (h : small r w) : ∀ dd i, i + dd = w.length → Ev (fun k => althingref05_Keys.l1 k (rk r ++ wk (w.take i)) (i : Int) a b c d e s r w m) (keysB r w)
  | 0, i, hi => by
    refine Ev.step (f := fun k => (althingref04_Join.f k (rk r ++ wk (w.take i)) ([] : List ByteArray)).bind fun t => some t) (fun k => ?_) ?_
    · simp only [althingref05_Keys.l1]; rw [if_neg (by omega)]
    · rw [show i = w.length by omega, List.take_length]
      refine Ev.bind (rjoin_ev _ _ ⟨?_, fun x hx => ?_⟩ few_nil) (Ev.const (by rw [joinB_flat]; rfl))
      · rw [List.length_append]
        have := h.1
        have := h.2.1
        unfold rk wk; rw [List.length_map, List.length_map]; omega
      · rcases List.mem_append.1 hx with h1 | h1
        · exact (rk_few h).2 x h1
        · exact (wk_few h).2 x h1
  | dd + 1, i, hi => by
    have hil : i < w.length := by omega
    have hw := h.2.1
    have hr := h.1
    refine Ev.step (fun k => ?_) (rkeys_l1 h dd (i + 1) (by omega))
    simp only [althingref05_Keys.l1]
    rw [if_pos (by omega), if_pos (by omega), if_pos (by unfold rk wk; rw [List.length_append, List.length_map, List.length_map, List.length_take]; omega), rdW w i hil, w1 i (by omega), List.take_succ_eq_append_getElem hil]
    unfold wk
    rw [List.map_append, List.append_assoc]; rfl
theorem rkeys_l0 (h : small r w) : ∀ dd i, i + dd = r.length → Ev (fun k => althingref05_Keys.l0 k (rk (r.take i)) (i : Int) a b c d e s r w m) (keysB r w)
  | 0, i, hi => by
    have hq := rkeys_l1 a b c d e s r w m h w.length 0 (by omega)
    refine Ev.step (fun k => ?_) hq
    simp only [althingref05_Keys.l0]
    rw [if_neg (by omega), show i = r.length by omega, List.take_length, List.take_zero, show wk [] = [] from rfl, List.append_nil]; rfl
  | dd + 1, i, hi => by
    have hil : i < r.length := by omega
    have hr := h.1
    refine Ev.step (fun k => ?_) (rkeys_l0 h dd (i + 1) (by omega))
    simp only [althingref05_Keys.l0]
    rw [if_pos (by omega), if_pos (by omega), if_pos (by unfold rk; rw [List.length_map, List.length_take]; omega), rdR r i hil, w1 i (by omega), List.take_succ_eq_append_getElem hil]
    unfold rk
    rw [List.map_append]; rfl
theorem rkeys_is (h : small r w) : Ev (fun k => althingref05_Keys.f k a b c d e s r w m) (keysB r w) := rkeys_l0 a b c d e s r w m h r.length 0 (by omega)
theorem rrt_l1 (h : small r w) : ∀ dd i, i + dd = w.length → Ev (fun k => althingref05_Right.l1 k (rk r) (wk (w.take i)) (i : Int) a b c d e s r w m) ((w.drop i).all (fun x => decide (x.f1.size ≤ 8)) && (rightsB (rk r) && rightsB (wk w)))
  | 0, i, hi => by
    refine Ev.step (f := fun k => (althingref04_Rights.f k (rk r)).bind fun t => if t = true then (althingref04_Rights.f k (wk (w.take i))).bind fun t => some t else some false) (fun k => ?_) ?_
    · simp only [althingref05_Right.l1]; rw [if_neg (by omega)]
    · rw [show i = w.length by omega, List.take_length, List.drop_length, List.all_nil, Bool.true_and]
      have hq := rrights_is (rk r) (by have := (rk_few h).1; omega) (fun x hx => by have := (rk_few h).2 x hx; omega)
      cases hR : rightsB (rk r) with
      | false => exact Ev.bindF (hR ▸ hq) (Ev.const rfl)
      | true => exact Ev.bindT (hR ▸ hq) (Ev.bind (rrights_is (wk w) (by have := (wk_few h).1; omega) (fun x hx => by have := (wk_few h).2 x hx; omega)) (Ev.const (by rw [Bool.true_and])))
  | dd + 1, i, hi => by
    have hil : i < w.length := by omega
    have hw := h.2.1
    rw [List.drop_eq_getElem_cons hil, List.all_cons]
    by_cases h8 : w[i].f1.size ≤ 8
    · rw [decide_eq_true h8, Bool.true_and]
      refine Ev.step (fun k => ?_) (rrt_l1 h dd (i + 1) (by omega))
      simp only [althingref05_Right.l1]
      rw [if_pos (by omega), if_pos (by omega), rdW w i hil, if_neg (by omega), if_pos (by unfold wk; rw [List.length_map, List.length_take]; omega), w1 i (by omega), List.take_succ_eq_append_getElem hil]
      unfold wk
      rw [List.map_append]; rfl
    · rw [decide_eq_false h8, Bool.false_and, Bool.false_and]
      refine Ev.step (f := fun _ => some false) (fun k => ?_) (Ev.const rfl)
      simp only [althingref05_Right.l1]
      rw [if_pos (by omega), if_pos (by omega), rdW w i hil, if_pos (by omega)]
theorem rrt_l0 (h : small r w) : ∀ dd i, i + dd = r.length → Ev (fun k => althingref05_Right.l0 k (rk (r.take i)) (i : Int) a b c d e s r w m) ((r.drop i).all (oldB d e) && (w.all (fun x => decide (x.f1.size ≤ 8)) && (rightsB (rk r) && rightsB (wk w))))
  | 0, i, hi => by
    have hq := rrt_l1 a b c d e s r w m h w.length 0 (by omega)
    rw [show i = r.length by omega, List.take_length, List.drop_length, List.all_nil, Bool.true_and]
    refine Ev.step (fun k => ?_) (by simpa using hq)
    simp only [althingref05_Right.l0]
    rw [if_neg (by omega)]; rfl
  | dd + 1, i, hi => by
    have hil : i < r.length := by omega
    have hr := h.1
    rw [List.drop_eq_getElem_cons hil, List.all_cons]
    cases ho : oldB d e r[i] with
    | true =>
      have ho' := ho
      unfold oldB at ho'
      rw [Bool.and_eq_true] at ho'
      rw [Bool.true_and]
      refine Ev.step (fun k => ?_) (rrt_l0 h dd (i + 1) (by omega))
      simp only [althingref05_Right.l0]
      rw [if_pos (by omega), if_pos (by omega), rdR r i hil, ref02_RightStamp_val, Option.bind_some, ho'.1, if_pos rfl, ref02_Before_val, Option.bind_some, ho'.2, if_pos rfl, if_pos (by unfold rk; rw [List.length_map, List.length_take]; omega), w1 i (by omega), List.take_succ_eq_append_getElem hil]
      unfold rk
      rw [List.map_append]; rfl
    | false =>
      have ho' := ho
      unfold oldB at ho'
      rw [Bool.false_and]
      refine Ev.step (f := fun _ => some false) (fun k => ?_) (Ev.const rfl)
      simp only [althingref05_Right.l0]
      rw [if_pos (by omega), if_pos (by omega), rdR r i hil, ref02_RightStamp_val, Option.bind_some]
      cases h1 : stampB r[i].f1.f0 r[i].f1.f1 with
      | false => rw [if_neg (by simp)]
      | true =>
        rw [h1, Bool.true_and] at ho'
        rw [if_pos rfl, ref02_Before_val, Option.bind_some, ho', if_neg (by simp)]
theorem rrt_tail (h : small r w) : Ev (fun k => althingref05_Right.l0 k [] 0 a b c d e s r w m) (tailB d e r w) := by
  unfold tailB
  rw [all_okR, all_okW]
  simpa [show rk [] = [] from rfl] using rrt_l0 a b c d e s r w m h r.length 0 (by omega)
theorem rright_j2 (h : small r w) (x : Bool) : Ev (fun k => althingref05_Right.j2 k x a b c d e s r w m) (!x && tailB d e r w) := by
  cases x with
  | true =>
    refine Ev.step (f := fun _ => some false) (fun k => ?_) (Ev.const (by simp))
    simp only [althingref05_Right.j2]; rw [if_pos trivial]
  | false =>
    refine Ev.step (fun k => ?_) (by simpa using rrt_tail a b c d e s r w m h)
    simp only [althingref05_Right.j2]; rw [if_neg (by simp)]
theorem rright_j1 (h : small r w) (x : Bool) : Ev (fun k => althingref05_Right.j1 k x a b c d e s r w m) (!x && (decide (1 ≤ s) && decide (s ≤ 15) && decide (r.length + w.length ≠ 0)) && tailB d e r w) := by
  cases x with
  | true =>
    refine Ev.step (f := fun _ => some false) (fun k => ?_) (Ev.const (by simp))
    simp only [althingref05_Right.j1]; rw [if_pos trivial]
  | false =>
    by_cases h1 : s ≤ 0
    · refine Ev.step (fun k => ?_) (by simpa [show ¬ 1 ≤ s by omega] using rright_j2 a b c d e s r w m h true)
      simp only [althingref05_Right.j1]; rw [if_neg (by simp), if_pos h1]
    · by_cases h2 : s ≥ 16
      · refine Ev.step (fun k => ?_) (by simpa [show ¬ s ≤ 15 by omega] using rright_j2 a b c d e s r w m h true)
        simp only [althingref05_Right.j1]; rw [if_neg (by simp), if_neg h1, if_pos h2]
      · by_cases h3 : r.length = 0
        · have hq := rright_j2 a b c d e s r w m h ((w.length : Int) == 0)
          refine Ev.step (f := fun k => althingref05_Right.j2 k ((w.length : Int) == 0) a b c d e s r w m) (fun k => ?_) ?_
          · simp only [althingref05_Right.j1]; rw [if_neg (by simp), if_neg h1, if_neg h2, if_pos (by omega)]
          · have e : (!false && (decide (1 ≤ s) && decide (s ≤ 15) && decide (r.length + w.length ≠ 0)) && tailB d e r w) = (!((w.length : Int) == 0) && tailB d e r w) := by
              rw [decide_eq_true (show 1 ≤ s by omega), decide_eq_true (show s ≤ 15 by omega)]
              by_cases h4 : w.length = 0
              · simp [h3, h4]
              · have h5 : ((w.length : Int) == 0) = false := by simpa using h4
                rw [h5, decide_eq_true (show r.length + w.length ≠ 0 by omega)]; simp
            rw [e]; exact hq
        · refine Ev.step (fun k => ?_) (by simpa [show 1 ≤ s by omega, show s ≤ 15 by omega, h3] using rright_j2 a b c d e s r w m h false)
          simp only [althingref05_Right.j1]; rw [if_neg (by simp), if_neg h1, if_neg h2, if_neg (by omega)]
theorem rright_j0 (h : small r w) (x : Bool) : Ev (fun k => althingref05_Right.j0 k x a b c d e s r w m) (!x && (txnB b c && stampB d e && decide (1 ≤ d) && decide (e = b) && decide (1 ≤ s) && decide (s ≤ 15) && decide (r.length + w.length ≠ 0)) && tailB d e r w) := by
  cases x with
  | true =>
    refine Ev.step (f := fun _ => some false) (fun k => ?_) (Ev.const (by simp))
    simp only [althingref05_Right.j0]; rw [if_pos trivial]
  | false =>
    cases h1 : txnB b c with
    | false =>
      refine Ev.step (fun k => ?_) (by simpa using rright_j1 a b c d e s r w m h true)
      simp only [althingref05_Right.j0]; rw [if_neg (by simp), ref02_RightTxn_val, Option.bind_some, h1, if_neg (by simp)]
    | true =>
      cases h2 : stampB d e with
      | false =>
        refine Ev.step (fun k => ?_) (by simpa using rright_j1 a b c d e s r w m h true)
        simp only [althingref05_Right.j0]; rw [if_neg (by simp), ref02_RightTxn_val, Option.bind_some, h1, if_pos rfl, ref02_RightStamp_val, Option.bind_some, h2, if_neg (by simp)]
      | true =>
        have hd : 0 ≤ d := by
          unfold stampB at h2
          rw [Bool.and_eq_true, decide_eq_true_eq] at h2
          exact h2.1.1
        by_cases h3 : d = 0
        · refine Ev.step (fun k => ?_) (by simpa [show ¬ 1 ≤ d by omega] using rright_j1 a b c d e s r w m h true)
          simp only [althingref05_Right.j0]; rw [if_neg (by simp), ref02_RightTxn_val, Option.bind_some, h1, if_pos rfl, ref02_RightStamp_val, Option.bind_some, h2, if_pos rfl, if_pos h3]
        · have e1 : (!false && (true && true && decide (1 ≤ d) && decide (e = b) && decide (1 ≤ s) && decide (s ≤ 15) && decide (r.length + w.length ≠ 0)) && tailB d e r w) = (!(e != b) && (decide (1 ≤ s) && decide (s ≤ 15) && decide (r.length + w.length ≠ 0)) && tailB d e r w) := by
            rw [decide_eq_true (show 1 ≤ d by omega)]
            by_cases h4 : e = b <;> simp [h4, Bool.and_assoc]
          rw [e1]
          refine Ev.step (fun k => ?_) (rright_j1 a b c d e s r w m h (e != b))
          simp only [althingref05_Right.j0]; rw [if_neg (by simp), ref02_RightTxn_val, Option.bind_some, h1, if_pos rfl, ref02_RightStamp_val, Option.bind_some, h2, if_pos rfl, if_neg h3]
/-- The reference tells whether a command may be as package command does. -/
theorem rright_is (h : small r w) : Ev (fun k => althingref05_Right.f k a b c d e s r w m) (rightB a b c d e s r w m) := by
  unfold rightB althingref05_Right.f
  by_cases h0 : a = 0
  · simp only [h0, ↓reduceIte]
    unfold zeroB
    cases h1 : (b == 0 && (c == 0)) with
    | false => simp only [Bool.false_eq_true, ↓reduceIte, Bool.false_and]; exact Ev.const rfl
    | true =>
      cases h2 : (d == 0 && (e == 0)) with
      | false => simp only [Bool.false_eq_true, ↓reduceIte, Bool.false_and, Bool.and_false]; exact Ev.const rfl
      | true =>
        by_cases h3 : s = 0
        · cases r with
          | nil =>
            cases w with
            | nil => exact Ev.const (by cases m <;> simp [h3])
            | cons y l => exact Ev.const (by simp [h3]; omega)
          | cons y l => exact Ev.const (by simp [h3]; omega)
        · exact Ev.const (by simp [h3])
  · by_cases h1 : a = 1
    · simp only [h0, h1, ↓reduceIte, true_or, Int.reduceEq]
      have hq := rright_j0 1 b c d e s r w m h m
      have e1 : (preB 1 b c d e s r w m && tailB d e r w) = (!m && (txnB b c && stampB d e && decide (1 ≤ d) && decide (e = b) && decide (1 ≤ s) && decide (s ≤ 15) && decide (r.length + w.length ≠ 0)) && tailB d e r w) := by
        unfold preB; rw [show ((1 : Int) == 1) = true from rfl, Bool.and_true, Bool.and_comm _ (!m)]
      rw [e1]; exact hq
    · by_cases h2 : a = 2
      · simp only [h0, h1, h2, ↓reduceIte, or_true, Int.reduceEq]
        have hq := rright_j0 2 b c d e s r w m h false
        have e1 : (preB 2 b c d e s r w m && tailB d e r w) = (!false && (txnB b c && stampB d e && decide (1 ≤ d) && decide (e = b) && decide (1 ≤ s) && decide (s ≤ 15) && decide (r.length + w.length ≠ 0)) && tailB d e r w) := by
          unfold preB; simp
        rw [e1]; exact hq
      · simp only [h0, h1, h2, ↓reduceIte, or_self]
        simpa using rright_j0 a b c d e s r w m h true
end
end Go.Proofs.Ytnjeeedndnfglaa.Strs
end
section
namespace Go.Proofs.Ytnjeeedndnfglaa.Strs
open Go.RowKit Go.Proofs.Ytnjeeedndnfglaa.Keys Go.Proofs.YtnjeeedndnfglaaW.PrintWords Go.Proofs.YtnjeeedndnfglaaW.PrintLast Go.Proofs.YtnjeeedndnfglaaW.PrintMore Go.Proofs.Ytnjeeedndnfglaa.X
set_option linter.unusedSimpArgs false
set_option linter.unusedVariables false
theorem shardN_range {s : ByteArray} {m : Int} (h : okKey s = true) (h1 : 1 ≤ m) (h4 : m ≤ 4) : 0 ≤ shardN s m ∧ shardN s m < m := by
  unfold shardN
  rw [if_pos ⟨h, h1, h4⟩]
  exact ⟨Int.emod_nonneg _ (by omega), Int.emod_lt_of_pos _ (by omega)⟩
theorem shardE_ok {s : ByteArray} {m : Int} (h : okKey s = true) (h1 : 1 ≤ m) (h4 : m ≤ 4) : shardE s m = 0 := by
  unfold shardE
  rw [if_pos ⟨h, h1, h4⟩]
def ofL (l : List ByteArray) (c sh : Int) : List ByteArray := l.filter (fun x => decide (shardE x sh = 0 ∧ shardN x sh = c))
theorem of_l0 (l : List ByteArray) (c sh : Int) (hl : l.length ≤ 2000) : ∀ d i, i + d = l.length → Ev (fun k => keys_Of.l0 k c sh (ofL (l.take i) c sh) l (l.length : Int) (i : Int)) (ofL l c sh)
  | 0, i, h => by
    have hi : i = l.length := by omega
    rw [hi, List.take_length]
    refine Ev.step (f := fun _ => some (ofL l c sh)) (fun k => ?_) (Ev.const rfl)
    simp only [keys_Of.l0]
    rw [if_neg (by omega)]
  | d + 1, i, h => by
    have hil : i < l.length := by omega
    have ih := of_l0 l c sh hl d (i + 1) (by omega)
    have hlen : (ofL (l.take i) c sh).length < 8796093022208 := by
      have h1 := List.length_filter_le (fun x => decide (shardE x sh = 0 ∧ shardN x sh = c)) (l.take i)
      have h2 := List.length_take_le i l
      unfold ofL; omega
    have hs : ofL (l.take (i + 1)) c sh = if shardE l[i] sh = 0 ∧ shardN l[i] sh = c then ofL (l.take i) c sh ++ [l[i]] else ofL (l.take i) c sh := by
      unfold ofL
      rw [List.take_succ_eq_append_getElem hil, List.filter_append, List.filter_cons, List.filter_nil]
      by_cases hp : shardE l[i] sh = 0 ∧ shardN l[i] sh = c
      · rw [if_pos hp, if_pos (decide_eq_true hp)]
      · rw [if_neg hp, if_neg (by rw [decide_eq_true_eq]; exact hp), List.append_nil]
    rw [hs] at ih
    refine Ev.step (fun k => ?_) ih
    simp only [keys_Of.l0]
    rw [if_pos (by omega), if_pos (by omega), if_pos (by omega), rd_at l i hil, w1 i (by omega)]
    show (some (shardN l[i] sh, shardE l[i] sh)).bind _ = _
    rw [Option.bind_some]
    by_cases h1 : shardE l[i] sh = 0
    · by_cases h2 : shardN l[i] sh = c
      · rw [if_pos h1, if_pos h2, if_pos hlen, if_pos ⟨h1, h2⟩]
      · rw [if_pos h1, if_neg h2, if_neg (fun e => h2 e.2)]
    · rw [if_neg h1, if_neg (fun e => h1 e.1)]
theorem of_is (l : List ByteArray) (c sh : Int) (hl : l.length ≤ 2000) : Ev (fun k => keys_Of.f k l c sh) (ofL l c sh) := of_l0 l c sh hl l.length 0 (by omega)
end Go.Proofs.Ytnjeeedndnfglaa.Strs
end
section
namespace Go.Proofs.Ytnjeeedndnfglaa.Strs
open Go.RowKit Go.Proofs.YtnjeeedndnfglaaW.PrintWords Go.Proofs.YtnjeeedndnfglaaW.PrintLast Go.Proofs.YtnjeeedndnfglaaW.PrintMore Go.Proofs.Ytnjeeedndnfglaa.X
set_option linter.unusedVariables false
set_option linter.unusedSimpArgs false
theorem lsame_l0 (l m : List ByteArray) (hl : l.length ≤ 2000) (hm : l.length = m.length) : ∀ d i k, i + d = l.length → d + 1 ≤ k → l.drop i = m.drop i → althinglaw05_same.l0 k l m (l.length : Int) (i : Int) = some true
  | 0, i, k, h1, hk, he => by
    obtain ⟨k, rfl⟩ : ∃ k', k = k' + 1 := ⟨k - 1, by omega⟩
    unfold althinglaw05_same.l0
    rw [if_neg (by omega)]
  | d + 1, i, k, h1, hk, he => by
    obtain ⟨k, rfl⟩ : ∃ k', k = k' + 1 := ⟨k - 1, by omega⟩
    have hil : i < l.length := by omega
    have him : i < m.length := by omega
    have e : rdOf ByteArray.empty l (i : Int) = l[i] := by unfold rdOf; rw [Int.toNat_natCast]; simp [List.getD_eq_getElem?_getD, hil]
    have e2 : rdOf ByteArray.empty m (i : Int) = m[i] := by unfold rdOf; rw [Int.toNat_natCast]; simp [List.getD_eq_getElem?_getD, him]
    rw [List.drop_eq_getElem_cons hil, List.drop_eq_getElem_cons him, List.cons.injEq] at he
    unfold althinglaw05_same.l0
    rw [if_pos (by omega), if_pos (by omega), if_pos (by omega), if_pos (by omega), e, e2, if_pos (by rw [he.1]), show wrap64 ((i : Int) + 1) = ((i + 1 : Nat) : Int) by unfold wrap64; omega]
    exact lsame_l0 l m hl hm d (i + 1) k (by omega) (by omega) he.2
theorem lsame_self (l : List ByteArray) (hl : l.length ≤ 2000) (k : Nat) (hk : 2001 ≤ k) : althinglaw05_same.f k l l = some true := by
  unfold althinglaw05_same.f
  rw [if_pos rfl]
  exact lsame_l0 l l hl rfl l.length 0 k (by omega) (by omega) rfl
end Go.Proofs.Ytnjeeedndnfglaa.Strs
end
