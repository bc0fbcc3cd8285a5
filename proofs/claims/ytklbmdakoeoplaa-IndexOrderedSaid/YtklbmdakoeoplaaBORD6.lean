/- What the claim ORD leans on: texts joined by bundle.py, a program of ours; the words cut down to what is used. -/
import Derived.Test.YtklbmdakoeoplaaBORD5
section
namespace Go.Proofs.Ytklbmdakoeoplaa.X
open Go.RowKit Go.Proofs.YtklbmdakoeoplaaW.PrintWords Go.Proofs.YtklbmdakoeoplaaW.PrintLast Go.Proofs.YtklbmdakoeoplaaW.PrintMore
attribute [local go_sem] max2_int min2_int max_two min_two max_three min_three max_four min_four   -- for this text's walks alone
set_option linter.unusedVariables false
set_option linter.unusedSimpArgs false
/-! ### althinglaw11_cloned: function 30 -/
def althinglaw11_cloned.f (a0_0 : Int) (a0_1 : Int) (a0_2 : Int) (a0_3 : Int) (a0_4 : Int) (a0_5 : Int) (l0_6 : List (S61)) (l0_7 : List (S46)) (a0_8 : Bool) : Option (Int × Int × Int × Int × Int × Int × (List (S61)) × (List (S46)) × Bool) := (some (([] : List (S61)) : List (S61))).bind fun y174 => (if y174.length + l0_6.length < 4398046511104 then ((some (([] : List (S46)) : List (S46))).bind fun y180 => (if y180.length + l0_7.length < 4398046511104 then (some (a0_0, a0_1, a0_2, a0_3, a0_4, a0_5, (y174 ++ l0_6), (y180 ++ l0_7), a0_8)) else (none))) else (none))
def althinglaw11_cloned.T1 : Bool × List (List Nat × List Nat) := (true, [([], []), ([], []), ([1], [1]), ([0, 2], [0, 2]), ([], []), ([], []), ([5], [5]), ([4, 6, 3], [4, 6]), ([0, 1, 2, 3, 5, 6], []), ([8, 3, 7, 0, 1, 2, 3, 5, 6], [3, 8]), ([0, 1, 2, 3, 4, 5, 6, 7, 8, 9], []), ([10, 7, 9, 0, 1, 2, 3, 4, 5, 6, 7, 8, 9], [7, 10])])
def althinglaw11_cloned.B1 : List Nat := [0, 0, 2, 7, 0, 0, 32, 127, 111, 511, 1023, 2047]
theorem althinglaw11_cloned.tab1 : rtab .any (opsOf Try.f30 1) = althinglaw11_cloned.T1 := by kernel_rfl
theorem althinglaw11_cloned.bits1 : waitsOk althinglaw11_cloned.T1.2 althinglaw11_cloned.B1 = true := by kernel_rfl
set_option maxHeartbeats 8000000 in
set_option maxRecDepth 100000 in
theorem althinglaw11_cloned.calls (a0_0 : Int) (a0_1 : Int) (a0_2 : Int) (a0_3 : Int) (a0_4 : Int) (a0_5 : Int) (A0_6 : Option Addr) (c0_6 : Nat) (l0_6 : List (S61)) (A0_7 : Option Addr) (c0_7 : Nat) (l0_7 : List (S46)) (a0_8 : Bool) (r1 : Int) (r2 : Int) (r3 : Int) (r4 : Int) (r5 : Int) (r6 : Int) (r7 : List (S61)) (r8 : List (S46)) (r9 : Bool) (w : World) (hr0_6 : Kd.C k61 w A0_6 l0_6.length l0_6) (hc0_6 : l0_6.length ≤ c0_6) (hr0_7 : Kd.C k46 w A0_7 l0_7.length l0_7) (hc0_7 : l0_7.length ≤ c0_7) (h : althinglaw11_cloned.f a0_0 a0_1 a0_2 a0_3 a0_4 a0_5 l0_6 l0_7 a0_8 = some (r1, r2, r3, r4, r5, r6, r7, r8, r9)) :
 Calls Try.prog 30 #[.agg #[.int .i64 a0_0, .int .i64 a0_1, .int .i64 a0_2, .int .i64 a0_3, .int .i64 a0_4, .int .i64 a0_5, .slice A0_6 l0_6.length c0_6, .slice A0_7 l0_7.length c0_7, .bool a0_8]] w fun e w' => ∃ v6_ v7_ : Value, e = .returned (.agg #[.int .i64 r1, .int .i64 r2, .int .i64 r3, .int .i64 r4, .int .i64 r5, .int .i64 r6, v6_, v7_, .bool r9]) ∧ Kd.R k61 61 w' w.heap.size (fun _ => True) v6_ r7 ∧ Kd.R k46 46 w' w.heap.size (fun _ => True) v7_ r8 ∧ Below w.heap.size w w' := by
 have hu32 := Try.underlying32
 have HR0_6 := Aside0.mk hr0_6
 have HC0_6 := Aside0.mk hc0_6
 clear hr0_6 hc0_6
 have HR0_7 := Aside0.mk hr0_7
 have HC0_7 := Aside0.mk hc0_7
 clear hr0_7 hc0_7
 have HB := Aside0.mk (Below.refl w.heap.size w)
 have H : ((some (([] : List (S61)) : List (S61))).bind fun y174 => (if y174.length + l0_6.length < 4398046511104 then ((some (([] : List (S46)) : List (S46))).bind fun y180 => (if y180.length + l0_7.length < 4398046511104 then (some (a0_0, a0_1, a0_2, a0_3, a0_4, a0_5, (y174 ++ l0_6), (y180 ++ l0_7), a0_8)) else (none))) else (none))) = some (r1, r2, r3, r4, r5, r6, r7, r8, r9) := h
 clear h
 obtain ⟨y174, hy174⟩ : ∃ y_ : List (S61), y_ = (([] : List (S61))) := ⟨_, rfl⟩
 replace H : (if y174.length + l0_6.length < 4398046511104 then ((some (([] : List (S46)) : List (S46))).bind fun y180 => (if y180.length + l0_7.length < 4398046511104 then (some (a0_0, a0_1, a0_2, a0_3, a0_4, a0_5, (y174 ++ l0_6), (y180 ++ l0_7), a0_8)) else (none))) else (none)) = some (r1, r2, r3, r4, r5, r6, r7, r8, r9) := by first | (rw [hy174]; with_reducible exact H) | (have H2_ := (Option.bind_some _ _).symm.trans H; rw [hy174]; with_reducible exact H2_) | (have H2_ := (Option.bind_some _ _).symm.trans H; with_reducible exact H2_) | with_reducible exact H | (rw [hy174]; exact H) | exact H
 have Ny174 := Aside0.mk hy174
 clear hy174
 by_cases c2 : y174.length + l0_6.length < 4398046511104
 · rw [if_pos c2] at H
   have LMc2 := Aside0.mk c2
   clear c2
   obtain ⟨y177, hy177⟩ : ∃ y_ : List (S61), y_ = (y174 ++ l0_6) := ⟨_, rfl⟩
   replace H : ((some (([] : List (S46)) : List (S46))).bind fun y180 => (if y180.length + l0_7.length < 4398046511104 then (some (a0_0, a0_1, a0_2, a0_3, a0_4, a0_5, y177, (y180 ++ l0_7), a0_8)) else (none))) = some (r1, r2, r3, r4, r5, r6, r7, r8, r9) := by first | (rw [hy177]; with_reducible exact H) | (have H2_ := (Option.bind_some _ _).symm.trans H; rw [hy177]; with_reducible exact H2_) | (have H2_ := (Option.bind_some _ _).symm.trans H; with_reducible exact H2_) | with_reducible exact H | (rw [hy177]; exact H) | exact H
   have Ny177 := Aside0.mk hy177
   clear hy177
   obtain ⟨y180, hy180⟩ : ∃ y_ : List (S46), y_ = (([] : List (S46))) := ⟨_, rfl⟩
   replace H : (if y180.length + l0_7.length < 4398046511104 then (some (a0_0, a0_1, a0_2, a0_3, a0_4, a0_5, y177, (y180 ++ l0_7), a0_8)) else (none)) = some (r1, r2, r3, r4, r5, r6, r7, r8, r9) := by first | (rw [hy180]; with_reducible exact H) | (have H2_ := (Option.bind_some _ _).symm.trans H; rw [hy180]; with_reducible exact H2_) | (have H2_ := (Option.bind_some _ _).symm.trans H; with_reducible exact H2_) | with_reducible exact H | (rw [hy180]; exact H) | exact H
   have Ny180 := Aside0.mk hy180
   clear hy180
   by_cases c3 : y180.length + l0_7.length < 4398046511104
   · rw [if_pos c3] at H
     have LMc3 := Aside0.mk c3
     clear c3
     obtain ⟨y183, hy183⟩ : ∃ y_ : List (S46), y_ = (y180 ++ l0_7) := ⟨_, rfl⟩
     replace H : (some (a0_0, a0_1, a0_2, a0_3, a0_4, a0_5, y177, y183, a0_8)) = some (r1, r2, r3, r4, r5, r6, r7, r8, r9) := by first | (rw [hy183]; with_reducible exact H) | (have H2_ := (Option.bind_some _ _).symm.trans H; rw [hy183]; with_reducible exact H2_) | (have H2_ := (Option.bind_some _ _).symm.trans H; with_reducible exact H2_) | with_reducible exact H | (rw [hy183]; exact H) | exact H
     have Ny183 := Aside0.mk hy183
     clear hy183
     simp only [Option.some.injEq, Prod.mk.injEq] at H
     obtain ⟨rfl, rfl, rfl, rfl, rfl, rfl, rfl, rfl, rfl⟩ := H
     go_enter Try.func30, Try.ntmps30
     try go_wp2_with (first | ((with_reducible refine gate_dst (N := 1) rfl ?_); refine box_event ?hg (N := 1) ?hd (cs := #[.int .i64 a0_0, .int .i64 a0_1, .int .i64 a0_2, .int .i64 a0_3, .int .i64 a0_4, .int .i64 a0_5, .slice A0_6 l0_6.length c0_6, .slice A0_7 l0_7.length c0_7, .bool a0_8]) (t := 32) ?hr ?_; (case hd => rfl); (case hg => rfl); (case hr => first | (go_simp; done) | (go_simp; rfl)); intro gb172 hg w4 hbox hb; have n0_ := Aside0.mk (below_step lb_ hb); have n1_ := Aside0.mk (hbox); have n2_ := Aside0.mk ((by rw [hg]; exact (below_size lb_) : w.heap.size ≤ gb172)); have n3_ := Aside0.mk ((by rw [hg]; exact (below_size lb_) : w.heap.size ≤ gb172)); clear HB; have HB := n0_; have BK172 := n1_; have GW172 := n2_; have GE172 := n3_; clear n0_ n1_ n2_ n3_; clear hb hbox hg) | ((with_reducible refine gate_dst (N := 2) rfl ?_); refine box_event ?hg (N := 2) ?hd (cs := #[.int .i64 0, .int .i64 0, .int .i64 0, .int .i64 0, .int .i64 0, .int .i64 0, .slice none 0 0, .slice none 0 0, .bool false]) (t := 32) ?hr ?_; (case hd => rfl); (case hg => rfl); (case hr => first | (go_simp; done) | (go_simp; rfl)); intro gb173 hg w5 hbox hb; have n0_ := Aside0.mk (blk_below (kb_ BK172.out) hb); have n1_ := Aside0.mk (below_step (by repeat (first | (with_reducible first | exact HB.out | apply below_alloc | apply pw_below_drewN | apply below_drew1 | refine below_set ?_ GE172.out) | exact HB.out)) hb); have n2_ := Aside0.mk (hbox); have n3_ := Aside0.mk ((by rw [hg]; exact (below_size (by repeat (first | (with_reducible first | exact HB.out | apply below_alloc | apply pw_below_drewN | apply below_drew1 | refine below_set ?_ GE172.out) | exact HB.out))) : w.heap.size ≤ gb173)); have n4_ := Aside0.mk ((by rw [hg]; exact (below_size (by repeat (first | (with_reducible first | exact HB.out | apply below_alloc | apply pw_below_drewN | apply below_drew1 | refine below_set ?_ GE172.out) | exact HB.out))) : w.heap.size ≤ gb173)); have n5_ := Aside0.mk ((by rw [hg]; exact Nat.ne_of_lt (blk_lt (kb_ BK172.out)) : gb172 ≠ gb173)); have n6_ := Aside0.mk ((by rw [hg]; exact Nat.ne_of_gt (blk_lt (kb_ BK172.out)) : gb173 ≠ gb172)); clear BK172; clear HB; have BK172 := n0_; have HB := n1_; have BK173 := n2_; have GW173 := n3_; have GE173 := n4_; have NB172_173 := n5_; have NB173_172 := n6_; clear n0_ n1_ n2_ n3_ n4_ n5_ n6_; clear hb hbox hg))
     have n0_ := Aside0.mk (blk_drew BK172.out)
     have n1_ := Aside0.mk (blk_drew BK173.out)
     have n2_ := Aside0.mk (below_drew1 HB.out)
     clear BK172
     clear BK173
     clear HB
     have BK172 := n0_
     have BK173 := n1_
     have HB := n2_
     clear n0_ n1_ n2_
     refine start_ (n := 12) (S := fun w' => w'.heap[gb172]? = some (.cells #[.int .i64 a0_0, .int .i64 a0_1, .int .i64 a0_2, .int .i64 a0_3, .int .i64 a0_4, .int .i64 a0_5, .slice A0_6 l0_6.length c0_6, .slice A0_7 l0_7.length c0_7, .bool a0_8] 32 (0, 0))) (ds := [9, 11]) #[false, false, false, false, false, false, false, false, false, false, false, false] (by kernel_rfl) rfl rfl BK172.out (fun hHeld => ?_); refine with_tabW althinglaw11_cloned.tab1 althinglaw11_cloned.bits1 (fun HT_ HW_ => ?_)
     generalize w5.drew = w6 at BK172 BK173 HB hHeld ⊢
     refine pure_ (i := 1) (N := some 4) (v := ?_) (a' := ?_) #[false, true, false, false, false, false, false, false, false, false, false, false] rfl rfl (any_of HT_.out (by kernel_rfl)) (fun _ _ _ h => h) (Or.inl ⟨by rfl, ?_⟩) ?_ ?_
     rotate_left
     · intro w'
       go_simp
       with_reducible rfl
     rotate_left
     · simp only [Act.put, List.setIfInBounds_toArray, List.set_cons_zero, List.set_cons_succ, i64_w, i32_w]
       rfl
     refine pure_ (i := 5) (N := some 8) (v := ?_) (a' := ?_) #[false, true, false, false, false, true, false, false, false, false, false, false] rfl rfl (any_of HT_.out (by kernel_rfl)) (fun _ _ _ h => h) (Or.inl ⟨by rfl, ?_⟩) ?_ ?_
     rotate_left
     · intro w'
       go_simp
       with_reducible rfl
     rotate_left
     · simp only [Act.put, List.setIfInBounds_toArray, List.set_cons_zero, List.set_cons_succ, i64_w, i32_w]
       rfl
     refine take_ (i := 2) (N := some 5) (v := ?_) (a' := ?_) #[false, true, true, false, false, true, false, false, false, false, false, false] rfl rfl (take_ofW HT_.out HW_.out (by kernel_rfl)) (fun _ _ _ h => h) (Or.inl ⟨by rfl, ?_⟩) hHeld ?_ ?_
     rotate_left
     · rintro w' s0
       first | (refine blk_yield2 (T := 32) s0 ?_ ⟨_, Try.underlying32, rfl⟩ ?_; exact ⟨rfl, rfl⟩; kernel_rfl) | (refine blk9_ s0 fun _ _ _ _ _ _ _ _ _ _ _ _ _ _ _ _ _ _ => ?_; go_simp; with_reducible rfl)
     rotate_left
     · simp only [Act.put, List.setIfInBounds_toArray, List.set_cons_zero, List.set_cons_succ, i64_w, i32_w]
       rfl
     refine take_ (i := 6) (N := some 9) (v := ?_) (a' := ?_) #[false, true, true, false, false, true, true, false, false, false, false, false] rfl rfl (take_ofW HT_.out HW_.out (by kernel_rfl)) (fun _ _ _ h => h) (Or.inl ⟨by rfl, ?_⟩) hHeld ?_ ?_
     rotate_left
     · rintro w' s0
       first | (refine blk_yield2 (T := 32) s0 ?_ ⟨_, Try.underlying32, rfl⟩ ?_; exact ⟨rfl, rfl⟩; kernel_rfl) | (refine blk9_ s0 fun _ _ _ _ _ _ _ _ _ _ _ _ _ _ _ _ _ _ => ?_; go_simp; with_reducible rfl)
     rotate_left
     · simp only [Act.put, List.setIfInBounds_toArray, List.set_cons_zero, List.set_cons_succ, i64_w, i32_w]
       rfl
     refine join_ (σ := Value × Value × Value) 4 #[true, true, true, true, true, true, true, false, true, false, false, false] (fun s_ => [(3, s_.1), (6, s_.2.1), (7, s_.2.2), (11, .pointer (some ⟨gb172, 6, none⟩))]) (fun s_ w' => (w'.heap[gb172]? = some (.cells #[.int .i64 a0_0, .int .i64 a0_1, .int .i64 a0_2, .int .i64 a0_3, .int .i64 a0_4, .int .i64 a0_5, .slice A0_6 l0_6.length c0_6, .slice A0_7 l0_7.length c0_7, .bool a0_8] 32 (0, 0))) ∧ (Kd.R k61 61 w' w.heap.size (fun _ => True) s_.2.1 y177) ∧ (Kd.R k46 46 w' w.heap.size (fun _ => True) s_.2.2 y180) ∧ (w'.heap[gb172]? = some (.cells #[.int .i64 a0_0, .int .i64 a0_1, .int .i64 a0_2, .int .i64 a0_3, .int .i64 a0_4, .int .i64 a0_5, .slice A0_6 l0_6.length c0_6, .slice A0_7 l0_7.length c0_7, .bool a0_8] 32 (0, 0))) ∧ (w'.heap[gb173]? = some (.cells #[.int .i64 0, .int .i64 0, .int .i64 0, .int .i64 0, .int .i64 0, .int .i64 0, .slice none 0 0, .slice none 0 0, .bool false] 32 (0, 0))) ∧ (Below w.heap.size w w')) ?_ ?_
     rotate_left
     · intro hCont
       refine two_ (i := 0) (j := 4) (Ni := some 3) (Nj := some 7) #[true, true, true, false, false, true, true, false, false, false, false, false] #[false, true, true, false, true, true, true, false, false, false, false, false] rfl rfl rfl rfl (two_of HT_.out (by kernel_rfl)) (by decide) (by decide) (fun K hK => ?_) (fun K hK => ?_)
       · skip
         refine Kd.R_lit_step k61 _ 61 ?hg (N := 3) ?hd (xs := ([] : List (S61))) (inner := []) (ok := fun _ => True) (okp := fun _ => True) ?hr ?hp (fun _ hk => hk) trivial (Below.refl _ _) (Nat.le_refl _) (by simp) ?_; (case hd => rfl); (case hg => rfl); (case hr => first | (go_simp; done) | (go_simp; rfl)); (case hp => exact (Reps.none _ _))
         intro v175 w7 ho8 hb hg_ hnew_
         clear hg_ hnew_
         (first | rw [← Ny174.out] at ho8 | (simp only [Int.reduceToNat] at ho8; rw [← Ny174.out] at ho8))
         have n0_ := Aside0.mk (Kd.R_lower ho8 (below_size (by repeat (first | (with_reducible first | exact HB.out | apply below_alloc | apply pw_below_drewN | apply below_drew1 | refine below_set ?_ GE172.out | refine below_set ?_ GE173.out) | exact HB.out))))
         have n1_ := Aside0.mk (blk_below (kb_ BK172.out) hb)
         have n2_ := Aside0.mk (blk_below (kb_ BK173.out) hb)
         have n3_ := Aside0.mk (below_step (by repeat (first | (with_reducible first | exact HB.out | apply below_alloc | apply pw_below_drewN | apply below_drew1 | refine below_set ?_ GE172.out | refine below_set ?_ GE173.out) | exact HB.out)) hb)
         clear BK172
         clear BK173
         clear HB
         have HO176 := n0_
         have BK172 := n1_
         have BK173 := n2_
         have HB := n3_
         clear n0_ n1_ n2_ n3_
         clear hb ho8
         refine hK.out _ _ BK172.out (fun hHeld => ?_)
         clear hK K
         refine norm_ (a' := ?_) ?_ ?_
         rotate_left
         · show Act.put _ (some 3) _ = _
           simp only [Act.put, List.setIfInBounds_toArray, List.set_cons_zero, List.set_cons_succ, i64_w, i32_w]
           rfl
         refine two_ (i := 3) (j := 4) (Ni := some 6) (Nj := some 7) #[true, true, true, true, false, true, true, false, false, false, false, false] #[true, true, true, false, true, true, true, false, false, false, false, false] rfl rfl rfl rfl (two_of HT_.out (by kernel_rfl)) (by decide) (by decide) (fun K hK => ?_) (fun K hK => ?_)
         · skip
           refine Kd.R_append_rows_step k61 (w0 := w) w.heap.size (by rfl) (.tmp 3) (.tmp 5) 29 61 (.agg #[(.string ⟨#[]⟩), (.int .i64 0), (.int .i64 0)]) 32 rfl Try.underlying29 info61 rfl (by decide) (by omega) v175 y174 l0_6 _ _ _ (fun _ => True) (fun _ => False) rfl rfl ?aO ?aR (fun _ _ h => h) (fun _ h => h.elim) ?aF ?aB ?aS ?aL ?_
           (case aR => repeat (first | exact (Kd.C_below HR0_6.out HB.out) | (with_reducible refine Kd.C_alloc ?_ _) | (with_reducible refine Kd.C_drewN ?_ _) | (with_reducible refine Kd.C_drew ?_)))
           (case aB => exact (by repeat (first | (with_reducible first | exact HB.out | apply below_alloc | apply pw_below_drewN | apply below_drew1 | refine below_set ?_ GE172.out | refine below_set ?_ GE173.out) | exact HB.out)))
           (case aF => exact (fun _ _ => trivial))
           (case aO => exact (kr_ HO176.out))
           (case aS => exact (below_size (by repeat (first | (with_reducible first | exact HB.out | apply below_alloc | apply pw_below_drewN | apply below_drew1 | refine below_set ?_ GE172.out | refine below_set ?_ GE173.out) | exact HB.out))))
           (case aL => have := LMc2.out; omega)
           intro v178 w9 ho hb hg hat
           rw [← Ny177.out] at ho
           have n0_ := Aside0.mk (blk_grown (kb_ BK172.out) hg (Kd.R_ne HO176.out BK172.out (by decide)))
           have n1_ := Aside0.mk (blk_grown (kb_ BK173.out) hg (Kd.R_ne HO176.out BK173.out (by decide)))
           have n2_ := Aside0.mk (hb)
           have n3_ := Aside0.mk (ho)
           clear BK172
           clear BK173
           clear HB
           clear HO176
           have BK172 := n0_
           have BK173 := n1_
           have HB := n2_
           have HO179 := n3_
           clear n0_ n1_ n2_ n3_
           clear ho hb hg hat
           refine hK.out _ _ BK172.out (fun hHeld => ?_)
           clear hK K
           refine norm_ (a' := ?_) ?_ ?_
           rotate_left
           · show Act.put _ (some 6) _ = _
             simp only [Act.put, List.setIfInBounds_toArray, List.set_cons_zero, List.set_cons_succ, i64_w, i32_w]
             rfl
           refine pure_ (i := 8) (N := some 11) (v := ?_) (a' := ?_) #[true, true, true, true, false, true, true, false, true, false, false, false] rfl rfl (any_of HT_.out (by kernel_rfl)) (fun _ _ _ h => h) (Or.inl ⟨by rfl, ?_⟩) ?_ ?_
           rotate_left
           · intro w'
             go_simp
             with_reducible rfl
           rotate_left
           · simp only [Act.put, List.setIfInBounds_toArray, List.set_cons_zero, List.set_cons_succ, i64_w, i32_w]
             rfl
           refine one_ (i := 4) (N := some 7) #[true, true, true, true, true, true, true, false, true, false, false, false] rfl rfl (one_of HT_.out (by kernel_rfl)) (by decide) (fun K hK => ?_)
           refine Kd.R_lit_step k46 _ 46 ?hg (N := 7) ?hd (xs := ([] : List (S46))) (inner := []) (ok := fun _ => True) (okp := fun _ => True) ?hr ?hp (fun _ hk => hk) trivial (Below.refl _ _) (Nat.le_refl _) (by simp) ?_; (case hd => rfl); (case hg => rfl); (case hr => first | (go_simp; done) | (go_simp; rfl)); (case hp => exact (Reps.none _ _))
           intro v181 w10 ho11 hb hg_ hnew_
           clear hg_ hnew_
           (first | rw [← Ny180.out] at ho11 | (simp only [Int.reduceToNat] at ho11; rw [← Ny180.out] at ho11))
           have n0_ := Aside0.mk (Kd.R_below (kr_ HO179.out) hb)
           have n1_ := Aside0.mk (Kd.R_lower ho11 (below_size (by repeat (first | (with_reducible first | exact HB.out | apply below_alloc | apply pw_below_drewN | apply below_drew1 | refine below_set ?_ GE172.out | refine below_set ?_ GE173.out) | exact HB.out))))
           have n2_ := Aside0.mk (blk_below (kb_ BK172.out) hb)
           have n3_ := Aside0.mk (blk_below (kb_ BK173.out) hb)
           have n4_ := Aside0.mk (below_step (by repeat (first | (with_reducible first | exact HB.out | apply below_alloc | apply pw_below_drewN | apply below_drew1 | refine below_set ?_ GE172.out | refine below_set ?_ GE173.out) | exact HB.out)) hb)
           clear HO179
           clear BK172
           clear BK173
           clear HB
           have HO179 := n0_
           have HO182 := n1_
           have BK172 := n2_
           have BK173 := n3_
           have HB := n4_
           clear n0_ n1_ n2_ n3_ n4_
           clear hb ho11
           refine hK.out _ _ BK172.out (fun hHeld => ?_)
           clear hK K
           refine norm_ (a' := ?_) ?_ ?_
           rotate_left
           · show Act.put _ (some 7) _ = _
             simp only [Act.put, List.setIfInBounds_toArray, List.set_cons_zero, List.set_cons_succ, i64_w, i32_w]
             rfl
           exact norm_ (by simp only [putAll, Act.put, List.setIfInBounds_toArray, List.set_cons_zero, List.set_cons_succ]) (hCont (v175, v178, v181) _ ⟨hHeld, (kr_ HO179.out), (kr_ HO182.out), (kb_ BK172.out), (kb_ BK173.out), (by repeat (first | (with_reducible first | exact HB.out | apply below_alloc | apply pw_below_drewN | apply below_drew1 | refine below_set ?_ GE172.out | refine below_set ?_ GE173.out) | exact HB.out))⟩)
         · skip
           refine Kd.R_lit_step k46 _ 46 ?hg (N := 7) ?hd (xs := ([] : List (S46))) (inner := []) (ok := fun _ => True) (okp := fun _ => True) ?hr ?hp (fun _ hk => hk) trivial (Below.refl _ _) (Nat.le_refl _) (by simp) ?_; (case hd => rfl); (case hg => rfl); (case hr => first | (go_simp; done) | (go_simp; rfl)); (case hp => exact (Reps.none _ _))
           intro v181 w9 ho10 hb hg_ hnew_
           clear hg_ hnew_
           (first | rw [← Ny180.out] at ho10 | (simp only [Int.reduceToNat] at ho10; rw [← Ny180.out] at ho10))
           have n0_ := Aside0.mk (Kd.R_below (kr_ HO176.out) hb)
           have n1_ := Aside0.mk (Kd.R_lower ho10 (below_size (by repeat (first | (with_reducible first | exact HB.out | apply below_alloc | apply pw_below_drewN | apply below_drew1 | refine below_set ?_ GE172.out | refine below_set ?_ GE173.out) | exact HB.out))))
           have n2_ := Aside0.mk (blk_below (kb_ BK172.out) hb)
           have n3_ := Aside0.mk (blk_below (kb_ BK173.out) hb)
           have n4_ := Aside0.mk (below_step (by repeat (first | (with_reducible first | exact HB.out | apply below_alloc | apply pw_below_drewN | apply below_drew1 | refine below_set ?_ GE172.out | refine below_set ?_ GE173.out) | exact HB.out)) hb)
           clear HO176
           clear BK172
           clear BK173
           clear HB
           have HO176 := n0_
           have HO182 := n1_
           have BK172 := n2_
           have BK173 := n3_
           have HB := n4_
           clear n0_ n1_ n2_ n3_ n4_
           clear hb ho10
           refine hK.out _ _ BK172.out (fun hHeld => ?_)
           clear hK K
           refine norm_ (a' := ?_) ?_ ?_
           rotate_left
           · show Act.put _ (some 7) _ = _
             simp only [Act.put, List.setIfInBounds_toArray, List.set_cons_zero, List.set_cons_succ, i64_w, i32_w]
             rfl
           refine one_ (i := 3) (N := some 6) #[true, true, true, true, true, true, true, false, false, false, false, false] rfl rfl (one_of HT_.out (by kernel_rfl)) (by decide) (fun K hK => ?_)
           refine Kd.R_append_rows_step k61 (w0 := w) w.heap.size (by rfl) (.tmp 3) (.tmp 5) 29 61 (.agg #[(.string ⟨#[]⟩), (.int .i64 0), (.int .i64 0)]) 32 rfl Try.underlying29 info61 rfl (by decide) (by omega) v175 y174 l0_6 _ _ _ (fun _ => True) (fun _ => False) rfl rfl ?aO ?aR (fun _ _ h => h) (fun _ h => h.elim) ?aF ?aB ?aS ?aL ?_
           (case aR => repeat (first | exact (Kd.C_below HR0_6.out HB.out) | (with_reducible refine Kd.C_alloc ?_ _) | (with_reducible refine Kd.C_drewN ?_ _) | (with_reducible refine Kd.C_drew ?_)))
           (case aB => exact (by repeat (first | (with_reducible first | exact HB.out | apply below_alloc | apply pw_below_drewN | apply below_drew1 | refine below_set ?_ GE172.out | refine below_set ?_ GE173.out) | exact HB.out)))
           (case aF => exact (fun _ _ => trivial))
           (case aO => exact (kr_ HO176.out))
           (case aS => exact (below_size (by repeat (first | (with_reducible first | exact HB.out | apply below_alloc | apply pw_below_drewN | apply below_drew1 | refine below_set ?_ GE172.out | refine below_set ?_ GE173.out) | exact HB.out))))
           (case aL => have := LMc2.out; omega)
           intro v178 w11 ho hb hg hat
           rw [← Ny177.out] at ho
           have n0_ := Aside0.mk (blk_grown (kb_ BK172.out) hg (Kd.R_ne HO176.out BK172.out (by decide)))
           have n1_ := Aside0.mk (blk_grown (kb_ BK173.out) hg (Kd.R_ne HO176.out BK173.out (by decide)))
           have n2_ := Aside0.mk (Kd.R_over' (kr_ HO182.out) (Kd.R_typed (kr_ HO176.out)) (by decide) hg)
           have n3_ := Aside0.mk (hb)
           have n4_ := Aside0.mk (ho)
           clear BK172
           clear BK173
           clear HO182
           clear HB
           clear HO176
           have BK172 := n0_
           have BK173 := n1_
           have HO182 := n2_
           have HB := n3_
           have HO179 := n4_
           clear n0_ n1_ n2_ n3_ n4_
           clear ho hb hg hat
           refine hK.out _ _ BK172.out (fun hHeld => ?_)
           clear hK K
           refine norm_ (a' := ?_) ?_ ?_
           rotate_left
           · show Act.put _ (some 6) _ = _
             simp only [Act.put, List.setIfInBounds_toArray, List.set_cons_zero, List.set_cons_succ, i64_w, i32_w]
             rfl
           refine pure_ (i := 8) (N := some 11) (v := ?_) (a' := ?_) #[true, true, true, true, true, true, true, false, true, false, false, false] rfl rfl (any_of HT_.out (by kernel_rfl)) (fun _ _ _ h => h) (Or.inl ⟨by rfl, ?_⟩) ?_ ?_
           rotate_left
           · intro w'
             go_simp
             with_reducible rfl
           rotate_left
           · simp only [Act.put, List.setIfInBounds_toArray, List.set_cons_zero, List.set_cons_succ, i64_w, i32_w]
             rfl
           exact norm_ (by simp only [putAll, Act.put, List.setIfInBounds_toArray, List.set_cons_zero, List.set_cons_succ]) (hCont (v175, v178, v181) _ ⟨hHeld, (kr_ HO179.out), (kr_ HO182.out), (kb_ BK172.out), (kb_ BK173.out), (by repeat (first | (with_reducible first | exact HB.out | apply below_alloc | apply pw_below_drewN | apply below_drew1 | refine below_set ?_ GE172.out | refine below_set ?_ GE173.out) | exact HB.out))⟩)
       · skip
         refine Kd.R_lit_step k46 _ 46 ?hg (N := 7) ?hd (xs := ([] : List (S46))) (inner := []) (ok := fun _ => True) (okp := fun _ => True) ?hr ?hp (fun _ hk => hk) trivial (Below.refl _ _) (Nat.le_refl _) (by simp) ?_; (case hd => rfl); (case hg => rfl); (case hr => first | (go_simp; done) | (go_simp; rfl)); (case hp => exact (Reps.none _ _))
         intro v181 w7 ho8 hb hg_ hnew_
         clear hg_ hnew_
         (first | rw [← Ny180.out] at ho8 | (simp only [Int.reduceToNat] at ho8; rw [← Ny180.out] at ho8))
         have n0_ := Aside0.mk (Kd.R_lower ho8 (below_size (by repeat (first | (with_reducible first | exact HB.out | apply below_alloc | apply pw_below_drewN | apply below_drew1 | refine below_set ?_ GE172.out | refine below_set ?_ GE173.out) | exact HB.out))))
         have n1_ := Aside0.mk (blk_below (kb_ BK172.out) hb)
         have n2_ := Aside0.mk (blk_below (kb_ BK173.out) hb)
         have n3_ := Aside0.mk (below_step (by repeat (first | (with_reducible first | exact HB.out | apply below_alloc | apply pw_below_drewN | apply below_drew1 | refine below_set ?_ GE172.out | refine below_set ?_ GE173.out) | exact HB.out)) hb)
         clear BK172
         clear BK173
         clear HB
         have HO182 := n0_
         have BK172 := n1_
         have BK173 := n2_
         have HB := n3_
         clear n0_ n1_ n2_ n3_
         clear hb ho8
         refine hK.out _ _ BK172.out (fun hHeld => ?_)
         clear hK K
         refine norm_ (a' := ?_) ?_ ?_
         rotate_left
         · show Act.put _ (some 7) _ = _
           simp only [Act.put, List.setIfInBounds_toArray, List.set_cons_zero, List.set_cons_succ, i64_w, i32_w]
           rfl
         refine one_ (i := 0) (N := some 3) #[true, true, true, false, true, true, true, false, false, false, false, false] rfl rfl (one_of HT_.out (by kernel_rfl)) (by decide) (fun K hK => ?_)
         refine Kd.R_lit_step k61 _ 61 ?hg (N := 3) ?hd (xs := ([] : List (S61))) (inner := []) (ok := fun _ => True) (okp := fun _ => True) ?hr ?hp (fun _ hk => hk) trivial (Below.refl _ _) (Nat.le_refl _) (by simp) ?_; (case hd => rfl); (case hg => rfl); (case hr => first | (go_simp; done) | (go_simp; rfl)); (case hp => exact (Reps.none _ _))
         intro v175 w9 ho10 hb hg_ hnew_
         clear hg_ hnew_
         (first | rw [← Ny174.out] at ho10 | (simp only [Int.reduceToNat] at ho10; rw [← Ny174.out] at ho10))
         have n0_ := Aside0.mk (Kd.R_below (kr_ HO182.out) hb)
         have n1_ := Aside0.mk (Kd.R_lower ho10 (below_size (by repeat (first | (with_reducible first | exact HB.out | apply below_alloc | apply pw_below_drewN | apply below_drew1 | refine below_set ?_ GE172.out | refine below_set ?_ GE173.out) | exact HB.out))))
         have n2_ := Aside0.mk (blk_below (kb_ BK172.out) hb)
         have n3_ := Aside0.mk (blk_below (kb_ BK173.out) hb)
         have n4_ := Aside0.mk (below_step (by repeat (first | (with_reducible first | exact HB.out | apply below_alloc | apply pw_below_drewN | apply below_drew1 | refine below_set ?_ GE172.out | refine below_set ?_ GE173.out) | exact HB.out)) hb)
         clear HO182
         clear BK172
         clear BK173
         clear HB
         have HO182 := n0_
         have HO176 := n1_
         have BK172 := n2_
         have BK173 := n3_
         have HB := n4_
         clear n0_ n1_ n2_ n3_ n4_
         clear hb ho10
         refine hK.out _ _ BK172.out (fun hHeld => ?_)
         clear hK K
         refine norm_ (a' := ?_) ?_ ?_
         rotate_left
         · show Act.put _ (some 3) _ = _
           simp only [Act.put, List.setIfInBounds_toArray, List.set_cons_zero, List.set_cons_succ, i64_w, i32_w]
           rfl
         refine one_ (i := 3) (N := some 6) #[true, true, true, true, true, true, true, false, false, false, false, false] rfl rfl (one_of HT_.out (by kernel_rfl)) (by decide) (fun K hK => ?_)
         refine Kd.R_append_rows_step k61 (w0 := w) w.heap.size (by rfl) (.tmp 3) (.tmp 5) 29 61 (.agg #[(.string ⟨#[]⟩), (.int .i64 0), (.int .i64 0)]) 32 rfl Try.underlying29 info61 rfl (by decide) (by omega) v175 y174 l0_6 _ _ _ (fun _ => True) (fun _ => False) rfl rfl ?aO ?aR (fun _ _ h => h) (fun _ h => h.elim) ?aF ?aB ?aS ?aL ?_
         (case aR => repeat (first | exact (Kd.C_below HR0_6.out HB.out) | (with_reducible refine Kd.C_alloc ?_ _) | (with_reducible refine Kd.C_drewN ?_ _) | (with_reducible refine Kd.C_drew ?_)))
         (case aB => exact (by repeat (first | (with_reducible first | exact HB.out | apply below_alloc | apply pw_below_drewN | apply below_drew1 | refine below_set ?_ GE172.out | refine below_set ?_ GE173.out) | exact HB.out)))
         (case aF => exact (fun _ _ => trivial))
         (case aO => exact (kr_ HO176.out))
         (case aS => exact (below_size (by repeat (first | (with_reducible first | exact HB.out | apply below_alloc | apply pw_below_drewN | apply below_drew1 | refine below_set ?_ GE172.out | refine below_set ?_ GE173.out) | exact HB.out))))
         (case aL => have := LMc2.out; omega)
         intro v178 w11 ho hb hg hat
         rw [← Ny177.out] at ho
         have n0_ := Aside0.mk (blk_grown (kb_ BK172.out) hg (Kd.R_ne HO176.out BK172.out (by decide)))
         have n1_ := Aside0.mk (blk_grown (kb_ BK173.out) hg (Kd.R_ne HO176.out BK173.out (by decide)))
         have n2_ := Aside0.mk (Kd.R_over' (kr_ HO182.out) (Kd.R_typed (kr_ HO176.out)) (by decide) hg)
         have n3_ := Aside0.mk (hb)
         have n4_ := Aside0.mk (ho)
         clear BK172
         clear BK173
         clear HO182
         clear HB
         clear HO176
         have BK172 := n0_
         have BK173 := n1_
         have HO182 := n2_
         have HB := n3_
         have HO179 := n4_
         clear n0_ n1_ n2_ n3_ n4_
         clear ho hb hg hat
         refine hK.out _ _ BK172.out (fun hHeld => ?_)
         clear hK K
         refine norm_ (a' := ?_) ?_ ?_
         rotate_left
         · show Act.put _ (some 6) _ = _
           simp only [Act.put, List.setIfInBounds_toArray, List.set_cons_zero, List.set_cons_succ, i64_w, i32_w]
           rfl
         refine pure_ (i := 8) (N := some 11) (v := ?_) (a' := ?_) #[true, true, true, true, true, true, true, false, true, false, false, false] rfl rfl (any_of HT_.out (by kernel_rfl)) (fun _ _ _ h => h) (Or.inl ⟨by rfl, ?_⟩) ?_ ?_
         rotate_left
         · intro w'
           go_simp
           with_reducible rfl
         rotate_left
         · simp only [Act.put, List.setIfInBounds_toArray, List.set_cons_zero, List.set_cons_succ, i64_w, i32_w]
           rfl
         exact norm_ (by simp only [putAll, Act.put, List.setIfInBounds_toArray, List.set_cons_zero, List.set_cons_succ]) (hCont (v175, v178, v181) _ ⟨hHeld, (kr_ HO179.out), (kr_ HO182.out), (kb_ BK172.out), (kb_ BK173.out), (by repeat (first | (with_reducible first | exact HB.out | apply below_alloc | apply pw_below_drewN | apply below_drew1 | refine below_set ?_ GE172.out | refine below_set ?_ GE173.out) | exact HB.out))⟩)
     rintro ⟨v175, v178, v181⟩ w12 ⟨hS_, h0_, h1_, h2_, h3_, h4_⟩
     have n0_ : Aside0 (Kd.R k61 61 w12 w.heap.size (fun _ => True) v178 y177) := ⟨h0_⟩
     have n1_ : Aside0 (Kd.R k46 46 w12 w.heap.size (fun _ => True) v181 y180) := ⟨h1_⟩
     have n2_ : Aside0 (w12.heap[gb172]? = some (.cells #[.int .i64 a0_0, .int .i64 a0_1, .int .i64 a0_2, .int .i64 a0_3, .int .i64 a0_4, .int .i64 a0_5, .slice A0_6 l0_6.length c0_6, .slice A0_7 l0_7.length c0_7, .bool a0_8] 32 (0, 0))) := ⟨h2_⟩
     have n3_ : Aside0 (w12.heap[gb173]? = some (.cells #[.int .i64 0, .int .i64 0, .int .i64 0, .int .i64 0, .int .i64 0, .int .i64 0, .slice none 0 0, .slice none 0 0, .bool false] 32 (0, 0))) := ⟨h3_⟩
     have n4_ : Aside0 (Below w.heap.size w w12) := ⟨h4_⟩
     clear BK172
     clear BK173
     clear HB
     clear h0_ h1_ h2_ h3_ h4_
     have HO179 := n0_
     have HO182 := n1_
     have BK172 := n2_
     have BK173 := n3_
     have HB := n4_
     clear n0_ n1_ n2_ n3_ n4_
     have hHeld : w12.heap[gb172]? = some (.cells #[.int .i64 a0_0, .int .i64 a0_1, .int .i64 a0_2, .int .i64 a0_3, .int .i64 a0_4, .int .i64 a0_5, .slice A0_6 l0_6.length c0_6, .slice A0_7 l0_7.length c0_7, .bool a0_8] 32 (0, 0)) := hS_
     refine norm_ (a' := ?_) ?_ ?_
     rotate_left
     · simp only [putAll, Act.put, List.setIfInBounds_toArray, List.set_cons_zero, List.set_cons_succ]
       rfl
     refine one_ (i := 7) (N := some 10) #[true, true, true, true, true, true, true, true, true, false, false, false] rfl rfl (one_of HT_.out (by kernel_rfl)) (by decide) (fun K hK => ?_)
     refine Kd.R_append_rows_step k46 (w0 := w) w.heap.size (by rfl) (.tmp 7) (.tmp 9) 30 46 (.agg #[(.string ⟨#[]⟩), (.string ⟨#[]⟩)]) 32 rfl Try.underlying30 info46 rfl (by decide) (by omega) v181 y180 l0_7 _ _ _ (fun _ => True) (fun _ => False) rfl rfl ?aO ?aR (fun _ _ h => h) (fun _ h => h.elim) ?aF ?aB ?aS ?aL ?_
     (case aR => repeat (first | exact (Kd.C_below HR0_7.out HB.out) | (with_reducible refine Kd.C_alloc ?_ _) | (with_reducible refine Kd.C_drewN ?_ _) | (with_reducible refine Kd.C_drew ?_)))
     (case aB => exact (by repeat (first | (with_reducible first | exact HB.out | apply below_alloc | apply pw_below_drewN | apply below_drew1 | refine below_set ?_ GE172.out | refine below_set ?_ GE173.out) | exact HB.out)))
     (case aF => exact (fun _ _ => trivial))
     (case aO => exact (kr_ HO182.out))
     (case aS => exact (below_size (by repeat (first | (with_reducible first | exact HB.out | apply below_alloc | apply pw_below_drewN | apply below_drew1 | refine below_set ?_ GE172.out | refine below_set ?_ GE173.out) | exact HB.out))))
     (case aL => have := LMc3.out; omega)
     intro v184 w13 ho hb hg hat
     rw [← Ny183.out] at ho
     have n0_ := Aside0.mk (blk_grown (kb_ BK172.out) hg (Kd.R_ne HO182.out BK172.out (by decide)))
     have n1_ := Aside0.mk (blk_grown (kb_ BK173.out) hg (Kd.R_ne HO182.out BK173.out (by decide)))
     have n2_ := Aside0.mk (Kd.R_over' (kr_ HO179.out) (Kd.R_typed (kr_ HO182.out)) (by decide) hg)
     have n3_ := Aside0.mk (hb)
     have n4_ := Aside0.mk (ho)
     clear BK172
     clear BK173
     clear HO179
     clear HB
     clear HO182
     have BK172 := n0_
     have BK173 := n1_
     have HO179 := n2_
     have HB := n3_
     have HO185 := n4_
     clear n0_ n1_ n2_ n3_ n4_
     clear ho hb hg hat
     obtain ⟨Ao14, co14, eo14⟩ := Kd.R_slice HO179.out
     (first | subst eo14 | (injection eo14 with f1_ f2_ f3_; have f4_ := f1_.symm; have f5_ := f3_.symm; clear f1_ f2_ f3_; subst f4_; subst f5_))
     obtain ⟨Ao16, co16, eo16⟩ := Kd.R_slice HO185.out
     (first | subst eo16 | (injection eo16 with f1_ f2_ f3_; have f4_ := f1_.symm; have f5_ := f3_.symm; clear f1_ f2_ f3_; subst f4_; subst f5_))
     refine hK.out _ _ BK172.out (fun hHeld => ?_)
     clear hK K
     refine norm_ (a' := ?_) ?_ ?_
     rotate_left
     · show Act.put _ (some 10) _ = _
       simp only [Act.put, List.setIfInBounds_toArray, List.set_cons_zero, List.set_cons_succ, i64_w, i32_w]
       rfl
     refine last_ (i := 9) (N := none) #[true, true, true, true, true, true, true, true, true, true, false, false] rfl rfl (one_of HT_.out (by kernel_rfl)) (by decide) (fun K hK => ?_)
     have hs15 : w13.cell? ⟨gb172, 6, none⟩ = some (.slice A0_6 l0_6.length c0_6) := (blk_cell BK172.out 6).trans rfl
     have hfs15 := blk_frozen BK172.out 6
     have hns15_1 := NB173_172.out
     have hms15_1 := NB172_173.out
     refine skip_ (w1 := ?_) (by rfl) rfl ?_ ?_
     rotate_left
     · go_simp
       rfl
     refine hK.out _ _ ?_
     clear hK K
     refine pure_ (i := 10) (N := some 12) (v := ?_) (a' := ?_) #[true, true, true, true, true, true, true, true, true, true, true, false] rfl rfl (any_of HT_.out (by kernel_rfl)) (fun _ _ _ h => h) (Or.inl ⟨by rfl, ?_⟩) ?_ ?_
     rotate_left
     · intro w'
       go_simp
       with_reducible rfl
     rotate_left
     · simp only [Act.put, List.setIfInBounds_toArray, List.set_cons_zero, List.set_cons_succ, i64_w, i32_w]
       rfl
     refine last_ (i := 11) (N := none) #[true, true, true, true, true, true, true, true, true, true, true, true] rfl rfl (one_of HT_.out (by kernel_rfl)) (by decide) (fun K hK => ?_)
     have hs17 : w13.cell? ⟨gb172, 7, none⟩ = some (.slice A0_7 l0_7.length c0_7) := (blk_cell BK172.out 7).trans rfl
     have hfs17 := blk_frozen BK172.out 7
     have hns17_1 := NB173_172.out
     have hms17_1 := NB172_173.out
     refine skip_ (w1 := ?_) (by rfl) rfl ?_ ?_
     rotate_left
     · go_simp
       rfl
     refine hK.out _ _ ?_
     clear hK K
     refine done_ (done_of HT_.out (by kernel_rfl)) ?_
     have hnb18 := NB172_173.out
     have hnc18 := NB173_172.out
     refine blk9_ BK172.out fun hcz19_0 hcz19_1 hcz19_2 hcz19_3 hcz19_4 hcz19_5 hcz19_6 hcz19_7 hcz19_8 hfz19_0 hfz19_1 hfz19_2 hfz19_3 hfz19_4 hfz19_5 hfz19_6 hfz19_7 hfz19_8 => ?_
     refine blk9_ BK173.out fun hcz20_0 hcz20_1 hcz20_2 hcz20_3 hcz20_4 hcz20_5 hcz20_6 hcz20_7 hcz20_8 hfz20_0 hfz20_1 hfz20_2 hfz20_3 hfz20_4 hfz20_5 hfz20_6 hfz20_7 hfz20_8 => ?_
     try go_wp2_with (first | ((with_reducible refine gate_store (t := 32) (p := 2) rfl ?_); refine store_event (t := 32) (p := 2) (v := ?vo_w21) (w1 := (((((((((((w13.setCell ⟨gb172, 6, none⟩ (.slice Ao14 y177.length co14)).setCell ⟨gb172, 7, none⟩ (.slice Ao16 y183.length co16)).setCell ⟨gb173, 0, none⟩ (.int .i64 a0_0)).setCell ⟨gb173, 1, none⟩ (.int .i64 a0_1)).setCell ⟨gb173, 2, none⟩ (.int .i64 a0_2)).setCell ⟨gb173, 3, none⟩ (.int .i64 a0_3)).setCell ⟨gb173, 4, none⟩ (.int .i64 a0_4)).setCell ⟨gb173, 5, none⟩ (.int .i64 a0_5)).setCell ⟨gb173, 6, none⟩ (.slice Ao14 y177.length co14)).setCell ⟨gb173, 7, none⟩ (.slice Ao16 y183.length co16)).setCell ⟨gb173, 8, none⟩ (.bool a0_8))) ?hg ?ho ?hn ?hr ?_; (case ho => rfl); (case hg => rfl); (case hn => rfl); (case hr => first | (go_simp; done) | (go_simp; rfl)); intro w21 hw; have n0_ : Aside0 (Kd.R k61 61 w21 w.heap.size (fun _ => True) (.slice Ao14 y177.length co14) y177) := ⟨(by rw [hw]; exact (by (with_reducible repeat (first | apply Kd.R_alloc | apply Kd.R_drewN | apply Kd.R_drew)); exact Kd.R_mono (Kd.R_far (p := ⟨gb173, 8, none⟩) (Kd.R_far (p := ⟨gb173, 7, none⟩) (Kd.R_far (p := ⟨gb173, 6, none⟩) (Kd.R_far (p := ⟨gb173, 5, none⟩) (Kd.R_far (p := ⟨gb173, 4, none⟩) (Kd.R_far (p := ⟨gb173, 3, none⟩) (Kd.R_far (p := ⟨gb173, 2, none⟩) (Kd.R_far (p := ⟨gb173, 1, none⟩) (Kd.R_far (p := ⟨gb173, 0, none⟩) (Kd.R_far (p := ⟨gb172, 7, none⟩) (Kd.R_far (p := ⟨gb172, 6, none⟩) (Kd.R_types (Kd.R_types HO179.out BK172.out (by decide)) BK173.out (by decide)) (fun _ hk => hk.1.2) (.slice Ao14 y177.length co14)) (fun _ hk => hk.1.2) (.slice Ao16 y183.length co16)) (fun _ hk => hk.2) (.int .i64 a0_0)) (fun _ hk => hk.2) (.int .i64 a0_1)) (fun _ hk => hk.2) (.int .i64 a0_2)) (fun _ hk => hk.2) (.int .i64 a0_3)) (fun _ hk => hk.2) (.int .i64 a0_4)) (fun _ hk => hk.2) (.int .i64 a0_5)) (fun _ hk => hk.2) (.slice Ao14 y177.length co14)) (fun _ hk => hk.2) (.slice Ao16 y183.length co16)) (fun _ hk => hk.2) (.bool a0_8)) (fun _ hk => trivial)))⟩; have n1_ : Aside0 (Kd.R k46 46 w21 w.heap.size (fun _ => True) (.slice Ao16 y183.length co16) y183) := ⟨(by rw [hw]; exact (by (with_reducible repeat (first | apply Kd.R_alloc | apply Kd.R_drewN | apply Kd.R_drew)); exact Kd.R_mono (Kd.R_far (p := ⟨gb173, 8, none⟩) (Kd.R_far (p := ⟨gb173, 7, none⟩) (Kd.R_far (p := ⟨gb173, 6, none⟩) (Kd.R_far (p := ⟨gb173, 5, none⟩) (Kd.R_far (p := ⟨gb173, 4, none⟩) (Kd.R_far (p := ⟨gb173, 3, none⟩) (Kd.R_far (p := ⟨gb173, 2, none⟩) (Kd.R_far (p := ⟨gb173, 1, none⟩) (Kd.R_far (p := ⟨gb173, 0, none⟩) (Kd.R_far (p := ⟨gb172, 7, none⟩) (Kd.R_far (p := ⟨gb172, 6, none⟩) (Kd.R_types (Kd.R_types HO185.out BK172.out (by decide)) BK173.out (by decide)) (fun _ hk => hk.1.2) (.slice Ao14 y177.length co14)) (fun _ hk => hk.1.2) (.slice Ao16 y183.length co16)) (fun _ hk => hk.2) (.int .i64 a0_0)) (fun _ hk => hk.2) (.int .i64 a0_1)) (fun _ hk => hk.2) (.int .i64 a0_2)) (fun _ hk => hk.2) (.int .i64 a0_3)) (fun _ hk => hk.2) (.int .i64 a0_4)) (fun _ hk => hk.2) (.int .i64 a0_5)) (fun _ hk => hk.2) (.slice Ao14 y177.length co14)) (fun _ hk => hk.2) (.slice Ao16 y183.length co16)) (fun _ hk => hk.2) (.bool a0_8)) (fun _ hk => trivial)))⟩; have n2_ : Aside0 (w21.heap[gb172]? = some (.cells #[.int .i64 a0_0, .int .i64 a0_1, .int .i64 a0_2, .int .i64 a0_3, .int .i64 a0_4, .int .i64 a0_5, .slice Ao14 y177.length co14, .slice Ao16 y183.length co16, .bool a0_8] 32 (0, 0))) := ⟨(by rw [hw]; exact (by (with_reducible repeat (first | refine blk_drewN ?_ _ | refine blk_drew ?_ | refine blk_alloc ?_ _)); refine blk_far ?_ NB172_173.out _; (with_reducible repeat (first | refine blk_drewN ?_ _ | refine blk_drew ?_ | refine blk_alloc ?_ _)); refine blk_far ?_ NB172_173.out _; (with_reducible repeat (first | refine blk_drewN ?_ _ | refine blk_drew ?_ | refine blk_alloc ?_ _)); refine blk_far ?_ NB172_173.out _; (with_reducible repeat (first | refine blk_drewN ?_ _ | refine blk_drew ?_ | refine blk_alloc ?_ _)); refine blk_far ?_ NB172_173.out _; (with_reducible repeat (first | refine blk_drewN ?_ _ | refine blk_drew ?_ | refine blk_alloc ?_ _)); refine blk_far ?_ NB172_173.out _; (with_reducible repeat (first | refine blk_drewN ?_ _ | refine blk_drew ?_ | refine blk_alloc ?_ _)); refine blk_far ?_ NB172_173.out _; (with_reducible repeat (first | refine blk_drewN ?_ _ | refine blk_drew ?_ | refine blk_alloc ?_ _)); refine blk_far ?_ NB172_173.out _; (with_reducible repeat (first | refine blk_drewN ?_ _ | refine blk_drew ?_ | refine blk_alloc ?_ _)); refine blk_far ?_ NB172_173.out _; (with_reducible repeat (first | refine blk_drewN ?_ _ | refine blk_drew ?_ | refine blk_alloc ?_ _)); refine blk_far ?_ NB172_173.out _; (with_reducible repeat (first | refine blk_drewN ?_ _ | refine blk_drew ?_ | refine blk_alloc ?_ _)); refine blk_put (cs := #[.int .i64 a0_0, .int .i64 a0_1, .int .i64 a0_2, .int .i64 a0_3, .int .i64 a0_4, .int .i64 a0_5, .slice Ao14 y177.length co14, .slice A0_7 l0_7.length c0_7, .bool a0_8]) ?_ 7 _ rfl; (with_reducible repeat (first | refine blk_drewN ?_ _ | refine blk_drew ?_ | refine blk_alloc ?_ _)); refine blk_put (cs := #[.int .i64 a0_0, .int .i64 a0_1, .int .i64 a0_2, .int .i64 a0_3, .int .i64 a0_4, .int .i64 a0_5, .slice A0_6 l0_6.length c0_6, .slice A0_7 l0_7.length c0_7, .bool a0_8]) ?_ 6 _ rfl; (with_reducible repeat (first | refine blk_drewN ?_ _ | refine blk_drew ?_ | refine blk_alloc ?_ _)); exact BK172.out))⟩; have n3_ : Aside0 (w21.heap[gb173]? = some (.cells #[.int .i64 a0_0, .int .i64 a0_1, .int .i64 a0_2, .int .i64 a0_3, .int .i64 a0_4, .int .i64 a0_5, .slice Ao14 y177.length co14, .slice Ao16 y183.length co16, .bool a0_8] 32 (0, 0))) := ⟨(by rw [hw]; exact (by (with_reducible repeat (first | refine blk_drewN ?_ _ | refine blk_drew ?_ | refine blk_alloc ?_ _)); refine blk_put (cs := #[.int .i64 a0_0, .int .i64 a0_1, .int .i64 a0_2, .int .i64 a0_3, .int .i64 a0_4, .int .i64 a0_5, .slice Ao14 y177.length co14, .slice Ao16 y183.length co16, .bool false]) ?_ 8 _ rfl; (with_reducible repeat (first | refine blk_drewN ?_ _ | refine blk_drew ?_ | refine blk_alloc ?_ _)); refine blk_put (cs := #[.int .i64 a0_0, .int .i64 a0_1, .int .i64 a0_2, .int .i64 a0_3, .int .i64 a0_4, .int .i64 a0_5, .slice Ao14 y177.length co14, .slice none 0 0, .bool false]) ?_ 7 _ rfl; (with_reducible repeat (first | refine blk_drewN ?_ _ | refine blk_drew ?_ | refine blk_alloc ?_ _)); refine blk_put (cs := #[.int .i64 a0_0, .int .i64 a0_1, .int .i64 a0_2, .int .i64 a0_3, .int .i64 a0_4, .int .i64 a0_5, .slice none 0 0, .slice none 0 0, .bool false]) ?_ 6 _ rfl; (with_reducible repeat (first | refine blk_drewN ?_ _ | refine blk_drew ?_ | refine blk_alloc ?_ _)); refine blk_put (cs := #[.int .i64 a0_0, .int .i64 a0_1, .int .i64 a0_2, .int .i64 a0_3, .int .i64 a0_4, .int .i64 0, .slice none 0 0, .slice none 0 0, .bool false]) ?_ 5 _ rfl; (with_reducible repeat (first | refine blk_drewN ?_ _ | refine blk_drew ?_ | refine blk_alloc ?_ _)); refine blk_put (cs := #[.int .i64 a0_0, .int .i64 a0_1, .int .i64 a0_2, .int .i64 a0_3, .int .i64 0, .int .i64 0, .slice none 0 0, .slice none 0 0, .bool false]) ?_ 4 _ rfl; (with_reducible repeat (first | refine blk_drewN ?_ _ | refine blk_drew ?_ | refine blk_alloc ?_ _)); refine blk_put (cs := #[.int .i64 a0_0, .int .i64 a0_1, .int .i64 a0_2, .int .i64 0, .int .i64 0, .int .i64 0, .slice none 0 0, .slice none 0 0, .bool false]) ?_ 3 _ rfl; (with_reducible repeat (first | refine blk_drewN ?_ _ | refine blk_drew ?_ | refine blk_alloc ?_ _)); refine blk_put (cs := #[.int .i64 a0_0, .int .i64 a0_1, .int .i64 0, .int .i64 0, .int .i64 0, .int .i64 0, .slice none 0 0, .slice none 0 0, .bool false]) ?_ 2 _ rfl; (with_reducible repeat (first | refine blk_drewN ?_ _ | refine blk_drew ?_ | refine blk_alloc ?_ _)); refine blk_put (cs := #[.int .i64 a0_0, .int .i64 0, .int .i64 0, .int .i64 0, .int .i64 0, .int .i64 0, .slice none 0 0, .slice none 0 0, .bool false]) ?_ 1 _ rfl; (with_reducible repeat (first | refine blk_drewN ?_ _ | refine blk_drew ?_ | refine blk_alloc ?_ _)); refine blk_put (cs := #[.int .i64 0, .int .i64 0, .int .i64 0, .int .i64 0, .int .i64 0, .int .i64 0, .slice none 0 0, .slice none 0 0, .bool false]) ?_ 0 _ rfl; (with_reducible repeat (first | refine blk_drewN ?_ _ | refine blk_drew ?_ | refine blk_alloc ?_ _)); refine blk_far ?_ NB173_172.out _; (with_reducible repeat (first | refine blk_drewN ?_ _ | refine blk_drew ?_ | refine blk_alloc ?_ _)); refine blk_far ?_ NB173_172.out _; (with_reducible repeat (first | refine blk_drewN ?_ _ | refine blk_drew ?_ | refine blk_alloc ?_ _)); exact BK173.out))⟩; have n4_ : Aside0 (Below w.heap.size w w21) := ⟨(by rw [hw]; exact (by repeat (first | (with_reducible first | exact HB.out | apply below_alloc | apply pw_below_drewN | apply below_drew1 | refine below_set ?_ GE172.out | refine below_set ?_ GE173.out) | exact HB.out)))⟩; clear hw; clear HO179; clear HO185; clear BK172; clear BK173; clear HB; have HO179 := n0_; have HO185 := n1_; have BK172 := n2_; have BK173 := n3_; have HB := n4_; clear n0_ n1_ n2_ n3_ n4_))
     refine bodyPost_ret (results_cell_row rfl _ _ gb173 32 #[.int .i64 a0_0, .int .i64 a0_1, .int .i64 a0_2, .int .i64 a0_3, .int .i64 a0_4, .int .i64 a0_5, .slice Ao14 y177.length co14, .slice Ao16 y183.length co16, .bool a0_8] (0, 0) _ rfl (kb_ BK173.out) Try.underlying32 rfl (by kernel_rfl)) rfl ?_
     exact ⟨_, _, by first | rfl | (simp [errW_none, errW_some] <;> rfl) | (simp [*, errW_none, errW_some] <;> rfl), by (with_reducible repeat (first | apply Kd.R_alloc | apply Kd.R_drewN | apply Kd.R_drew)); exact HO179.out, by (with_reducible repeat (first | apply Kd.R_alloc | apply Kd.R_drewN | apply Kd.R_drew)); exact HO185.out, by repeat (first | (with_reducible first | exact HB.out | apply below_alloc | apply pw_below_drewN | apply below_drew1 | refine below_set ?_ GE172.out | refine below_set ?_ GE173.out) | exact HB.out)⟩
   · rw [if_neg c3] at H
     exact absurd H (by simp)
 · rw [if_neg c2] at H
   exact absurd H (by simp)
end Go.Proofs.Ytklbmdakoeoplaa.X
end
section
namespace Go.Proofs.Ytklbmdakoeoplaa.X
open Go.RowKit Go.Proofs.YtklbmdakoeoplaaW.PrintWords Go.Proofs.YtklbmdakoeoplaaW.PrintLast Go.Proofs.YtklbmdakoeoplaaW.PrintMore
attribute [local go_sem] max2_int min2_int max_two min_two max_three min_three max_four min_four   -- for this text's walks alone
set_option linter.unusedVariables false
set_option linter.unusedSimpArgs false
/-! ### althinglaw11_own: function 13 -/
def althinglaw11_own.l0 : Nat → List (S44) → List (S44) → Int → Int → Option ((List (S44)))
 | 0, _, _, _, _ => none
 | k + 1, x3, x6, x7, x8 => if x8 < x7 then (if 0 ≤ x8 then (if x8 < (x6.length : Int) then ((althinglaw11_cloned.f ((rd_T44 x6 x8).f4.f0) ((rd_T44 x6 x8).f4.f1.f0) ((rd_T44 x6 x8).f4.f1.f1) ((rd_T44 x6 x8).f4.f2.f0) ((rd_T44 x6 x8).f4.f2.f1) ((rd_T44 x6 x8).f4.f3) ((rd_T44 x6 x8).f4.f4) ((rd_T44 x6 x8).f4.f5) ((rd_T44 x6 x8).f4.f6)).bind fun bt188 => (if x3.length < 606627104979 then (althinglaw11_own.l0 k (x3 ++ [(⟨(⟨(rd_T44 x6 x8).f0.f0, (rd_T44 x6 x8).f0.f1⟩ : S24), (rd_T44 x6 x8).f1, (⟨(rd_T44 x6 x8).f2.f0, (rd_T44 x6 x8).f2.f1⟩ : S40), (⟨(rd_T44 x6 x8).f3.f0, (rd_T44 x6 x8).f3.f1⟩ : S40), (⟨bt188.1, (⟨bt188.2.1, bt188.2.2.1⟩ : S26), (⟨bt188.2.2.2.1, bt188.2.2.2.2.1⟩ : S28), bt188.2.2.2.2.2.1, bt188.2.2.2.2.2.2.1, bt188.2.2.2.2.2.2.2.1, bt188.2.2.2.2.2.2.2.2⟩ : S32), (rd_T44 x6 x8).f5, (⟨(rd_T44 x6 x8).f6.f0, (rd_T44 x6 x8).f6.f1, (rd_T44 x6 x8).f6.f2, (rd_T44 x6 x8).f6.f3, (rd_T44 x6 x8).f6.f4, (rd_T44 x6 x8).f6.f5, (rd_T44 x6 x8).f6.f6⟩ : S42), (rd_T44 x6 x8).f7⟩ : S44)]) x6 x7 (wrap64 (x8 + 1))) else (none))) else (none)) else (none)) else (some x3)
def althinglaw11_own.f (k : Nat) (l0 : List (S44)) : Option ((List (S44))) := althinglaw11_own.l0 k ([] : List (S44)) l0 (l0.length : Int) 0
set_option maxHeartbeats 8000000 in
set_option maxRecDepth 100000 in
theorem althinglaw11_own.calls (k : Nat) (A0 : Option Addr) (c0 : Nat) (l0 : List (S44)) (r : List (S44)) (w : World) (hr0 : Kd.C k44 w A0 l0.length l0) (hc0 : l0.length ≤ c0) (h : althinglaw11_own.f k l0 = some r) :
 Calls Try.prog 13 #[.slice A0 l0.length c0] w fun e w' => ∃ v0_ : Value, e = .returned (v0_) ∧ Kd.S k44 44 w' w.heap.size (fun _ => True) v0_ r ∧ Below w.heap.size w w' := by
 have hu44 := Try.underlying44
 have hu32 := Try.underlying32
 have HR0 := Aside0.mk hr0
 have HC0 := Aside0.mk hc0
 clear hr0 hc0
 have HB := Aside0.mk (Below.refl w.heap.size w)
 have H : (althinglaw11_own.l0 k ([] : List (S44)) l0 (l0.length : Int) 0) = some r := h
 clear h
 have H' := Aside0.mk H
 clear H
 go_enter Try.func13, Try.ntmps13
 go_wp2
 go_loopg [3, 8] k (fun kq v3 v8 w' => ∃ (x3_1 : List (S44)) (x8_1 : Int), v8 = .int .i64 x8_1 ∧ Aside0 (althinglaw11_own.l0 kq x3_1 l0 (l0.length : Int) x8_1 = some r) ∧ Aside0 (kq ≤ k) ∧ Aside0 (Kd.S k44 44 w' w.heap.size (fun _ => True) v3 x3_1) ∧ Aside0 (Below w.heap.size w w'))
 case atStart => exact ⟨(([] : List (S44))), (0), (by first | rfl | (simp; done) | (simp [*]; done)), H', ⟨Nat.le_refl _⟩, ⟨by first | exact Kd.S_nil _ _ _ _ _ | exact Kd.N_nil _ _ _ _ _ | exact Kd.V_nil _ _ _ _ _ | exact Kd.Q_nil _ _ _ _ _ | exact Kd.R_nil _ _ _ _ _⟩, ⟨by repeat (first | (with_reducible first | exact HB.out | apply below_alloc | apply pw_below_drewN | apply below_drew1) | exact HB.out)⟩⟩
 case round =>
  clear H'
  try clear c1
  obtain ⟨x3_1, x8_1, rfl, HA, HK1, HO_3, HB⟩ := hrel
  cases gk with
  | zero => exact absurd HA.out (by simp [althinglaw11_own.l0])
  | succ k1 =>
   have H := HA.out
   clear HA
   simp only [althinglaw11_own.l0] at H
   by_cases c2 : x8_1 < (l0.length : Int)
   · rw [if_pos c2] at H
     have c2b0 : decide (x8_1 < (l0.length : Int)) = true := decide_eq_true c2
     clear c2
     by_cases c3 : 0 ≤ x8_1
     · rw [if_pos c3] at H
       have c3b0 : decide (0 ≤ x8_1) = true := decide_eq_true c3
       clear c3
       by_cases c4 : x8_1 < (l0.length : Int)
       · rw [if_pos c4] at H
         have c4b0 : decide (x8_1 < (l0.length : Int)) = true := decide_eq_true c4
         clear c4
         replace H := Option.bind_eq_some_iff.mp H
         obtain ⟨⟨t188, t189, t190, t191, t192, t193, t194, t197, t200⟩, A50, H⟩ := H
         replace H : (if x3_1.length < 606627104979 then (althinglaw11_own.l0 k1 (x3_1 ++ [(⟨(⟨(rd_T44 l0 x8_1).f0.f0, (rd_T44 l0 x8_1).f0.f1⟩ : S24), (rd_T44 l0 x8_1).f1, (⟨(rd_T44 l0 x8_1).f2.f0, (rd_T44 l0 x8_1).f2.f1⟩ : S40), (⟨(rd_T44 l0 x8_1).f3.f0, (rd_T44 l0 x8_1).f3.f1⟩ : S40), (⟨t188, (⟨t189, t190⟩ : S26), (⟨t191, t192⟩ : S28), t193, t194, t197, t200⟩ : S32), (rd_T44 l0 x8_1).f5, (⟨(rd_T44 l0 x8_1).f6.f0, (rd_T44 l0 x8_1).f6.f1, (rd_T44 l0 x8_1).f6.f2, (rd_T44 l0 x8_1).f6.f3, (rd_T44 l0 x8_1).f6.f4, (rd_T44 l0 x8_1).f6.f5, (rd_T44 l0 x8_1).f6.f6⟩ : S42), (rd_T44 l0 x8_1).f7⟩ : S44)]) l0 (l0.length : Int) (wrap64 (x8_1 + 1))) else (none)) = some r := H
         have A5 := Aside0.mk A50
         clear A50
         by_cases c6 : x3_1.length < 606627104979
         · rw [if_pos c6] at H
           have LMc6 := Aside0.mk c6
           clear c6
           obtain ⟨y201, hy201⟩ : ∃ y_ : List (S44), y_ = (x3_1 ++ [(⟨(⟨(rd_T44 l0 x8_1).f0.f0, (rd_T44 l0 x8_1).f0.f1⟩ : S24), (rd_T44 l0 x8_1).f1, (⟨(rd_T44 l0 x8_1).f2.f0, (rd_T44 l0 x8_1).f2.f1⟩ : S40), (⟨(rd_T44 l0 x8_1).f3.f0, (rd_T44 l0 x8_1).f3.f1⟩ : S40), (⟨t188, (⟨t189, t190⟩ : S26), (⟨t191, t192⟩ : S28), t193, t194, t197, t200⟩ : S32), (rd_T44 l0 x8_1).f5, (⟨(rd_T44 l0 x8_1).f6.f0, (rd_T44 l0 x8_1).f6.f1, (rd_T44 l0 x8_1).f6.f2, (rd_T44 l0 x8_1).f6.f3, (rd_T44 l0 x8_1).f6.f4, (rd_T44 l0 x8_1).f6.f5, (rd_T44 l0 x8_1).f6.f6⟩ : S42), (rd_T44 l0 x8_1).f7⟩ : S44)]) := ⟨_, rfl⟩
           replace H : (althinglaw11_own.l0 k1 y201 l0 (l0.length : Int) (wrap64 (x8_1 + 1))) = some r := by first | (rw [hy201]; with_reducible exact H) | (have H2_ := (Option.bind_some _ _).symm.trans H; rw [hy201]; with_reducible exact H2_) | (have H2_ := (Option.bind_some _ _).symm.trans H; with_reducible exact H2_) | with_reducible exact H | (rw [hy201]; exact H) | exact H
           have Ny201 := Aside0.mk hy201
           clear hy201
           have H' := Aside0.mk H
           clear H
           have p186 : 0 ≤ (x8_1 : Int) := of_decide_eq_true (by first | (with_reducible assumption) | assumption)
           have q186 : x8_1 < (l0.length : Int) := of_decide_eq_true (by first | (with_reducible assumption) | assumption)
           obtain ⟨ad186, A186_13, c186_13, A186_14, c186_14, e186, hx186_0, hx186_1, hx186_2, hx186_3, hx186_4, hx186_5, hx186_6, hx186_7, hx186_8, hx186_9, hx186_10, hx186_11, hx186_12, hx186_13, hx186_14, hx186_15, hx186_16, hx186_17, hx186_18, hx186_19, hx186_20, hx186_21, hx186_22, hx186_23, hx186_24, hl186_13, hi186_13, hl186_14, hi186_14⟩ := at_T44 HR0.out x8_1 p186 q186
           cases e186
           replace hx186_0 := (HB.out.cell (World.block_lt_of_cell? w _ hx186_0)).trans hx186_0
           replace hx186_1 := (HB.out.cell (World.block_lt_of_cell? w _ hx186_1)).trans hx186_1
           replace hx186_2 := (HB.out.cell (World.block_lt_of_cell? w _ hx186_2)).trans hx186_2
           replace hx186_3 := (HB.out.cell (World.block_lt_of_cell? w _ hx186_3)).trans hx186_3
           replace hx186_4 := (HB.out.cell (World.block_lt_of_cell? w _ hx186_4)).trans hx186_4
           replace hx186_5 := (HB.out.cell (World.block_lt_of_cell? w _ hx186_5)).trans hx186_5
           replace hx186_6 := (HB.out.cell (World.block_lt_of_cell? w _ hx186_6)).trans hx186_6
           replace hx186_7 := (HB.out.cell (World.block_lt_of_cell? w _ hx186_7)).trans hx186_7
           replace hx186_8 := (HB.out.cell (World.block_lt_of_cell? w _ hx186_8)).trans hx186_8
           replace hx186_9 := (HB.out.cell (World.block_lt_of_cell? w _ hx186_9)).trans hx186_9
           replace hx186_10 := (HB.out.cell (World.block_lt_of_cell? w _ hx186_10)).trans hx186_10
           replace hx186_11 := (HB.out.cell (World.block_lt_of_cell? w _ hx186_11)).trans hx186_11
           replace hx186_12 := (HB.out.cell (World.block_lt_of_cell? w _ hx186_12)).trans hx186_12
           replace hx186_13 := (HB.out.cell (World.block_lt_of_cell? w _ hx186_13)).trans hx186_13
           replace hx186_14 := (HB.out.cell (World.block_lt_of_cell? w _ hx186_14)).trans hx186_14
           replace hx186_15 := (HB.out.cell (World.block_lt_of_cell? w _ hx186_15)).trans hx186_15
           replace hx186_16 := (HB.out.cell (World.block_lt_of_cell? w _ hx186_16)).trans hx186_16
           replace hx186_17 := (HB.out.cell (World.block_lt_of_cell? w _ hx186_17)).trans hx186_17
           replace hx186_18 := (HB.out.cell (World.block_lt_of_cell? w _ hx186_18)).trans hx186_18
           replace hx186_19 := (HB.out.cell (World.block_lt_of_cell? w _ hx186_19)).trans hx186_19
           replace hx186_20 := (HB.out.cell (World.block_lt_of_cell? w _ hx186_20)).trans hx186_20
           replace hx186_21 := (HB.out.cell (World.block_lt_of_cell? w _ hx186_21)).trans hx186_21
           replace hx186_22 := (HB.out.cell (World.block_lt_of_cell? w _ hx186_22)).trans hx186_22
           replace hx186_23 := (HB.out.cell (World.block_lt_of_cell? w _ hx186_23)).trans hx186_23
           replace hx186_24 := (HB.out.cell (World.block_lt_of_cell? w _ hx186_24)).trans hx186_24
           have HR186_13 := Aside0.mk hi186_13
           have HC186_13 := Aside0.mk hl186_13
           clear hi186_13 hl186_13
           have HR186_14 := Aside0.mk hi186_14
           have HC186_14 := Aside0.mk hl186_14
           clear hi186_14 hl186_14
           replace p186 := eq_true p186
           replace q186 := eq_true q186
           go_wp2_with (first | ((with_reducible refine gate_dst (N := 11) rfl ?_); refine cells_load_event ?lg (N := 11) ?ld (t := 44) (x := ?lxxz7) ?lo (p := ?lppz7) ?lx (v := .int .i64 ((rd_T44 l0 x8_1).f0.f0)) (cs := [.int .i64 ((rd_T44 l0 x8_1).f0.f1), .int .i64 ((rd_T44 l0 x8_1).f1), .int .i64 ((rd_T44 l0 x8_1).f2.f0), .int .i64 ((rd_T44 l0 x8_1).f2.f1), .int .i64 ((rd_T44 l0 x8_1).f3.f0), .int .i64 ((rd_T44 l0 x8_1).f3.f1), .int .i64 ((rd_T44 l0 x8_1).f4.f0), .int .i64 ((rd_T44 l0 x8_1).f4.f1.f0), .int .i64 ((rd_T44 l0 x8_1).f4.f1.f1), .int .i64 ((rd_T44 l0 x8_1).f4.f2.f0), .int .i64 ((rd_T44 l0 x8_1).f4.f2.f1), .int .i64 ((rd_T44 l0 x8_1).f4.f3), .slice A186_13 ((rd_T44 l0 x8_1).f4.f4).length c186_13, .slice A186_14 ((rd_T44 l0 x8_1).f4.f5).length c186_14, .bool ((rd_T44 l0 x8_1).f4.f6), .int .i64 ((rd_T44 l0 x8_1).f5), .int .i64 ((rd_T44 l0 x8_1).f6.f0), .int .i64 ((rd_T44 l0 x8_1).f6.f1), .int .i64 ((rd_T44 l0 x8_1).f6.f2), .int .i64 ((rd_T44 l0 x8_1).f6.f3), .int .i64 ((rd_T44 l0 x8_1).f6.f4), .int .i64 ((rd_T44 l0 x8_1).f6.f5), .int .i64 ((rd_T44 l0 x8_1).f6.f6), .bool ((rd_T44 l0 x8_1).f7)]) ?lD ?lt ?l0 ?lc ?_; (case lg => rfl); (case ld => rfl); (case lo => rfl); (case lx => first | rfl | (go_simp; done) | (go_simp; rfl)); (case lD => exact ⟨_, Try.underlying44, rfl⟩); (case lt => kernel_rfl); (case l0 => exact hx186_0); (case lc => exact ⟨hx186_1, hx186_2, hx186_3, hx186_4, hx186_5, hx186_6, hx186_7, hx186_8, hx186_9, hx186_10, hx186_11, hx186_12, hx186_13, hx186_14, hx186_15, hx186_16, hx186_17, hx186_18, hx186_19, hx186_20, hx186_21, hx186_22, hx186_23, hx186_24, trivial⟩)) | ((with_reducible refine gate_dst (N := 5) rfl ?_); refine alloc_store_event ?hg1 (N := 5) ?hd1 ?hg2 ?hd2 ?ho2 (cs0 := #[.int .i64 0, .int .i64 0, .int .i64 0, .int .i64 0, .int .i64 0, .int .i64 0, .int .i64 0, .int .i64 0, .int .i64 0, .int .i64 0, .int .i64 0, .int .i64 0, .int .i64 0, .slice none 0 0, .slice none 0 0, .bool false, .int .i64 0, .int .i64 0, .int .i64 0, .int .i64 0, .int .i64 0, .int .i64 0, .int .i64 0, .int .i64 0, .bool false]) (cs := #[.int .i64 ((rd_T44 l0 x8_1).f0.f0), .int .i64 ((rd_T44 l0 x8_1).f0.f1), .int .i64 ((rd_T44 l0 x8_1).f1), .int .i64 ((rd_T44 l0 x8_1).f2.f0), .int .i64 ((rd_T44 l0 x8_1).f2.f1), .int .i64 ((rd_T44 l0 x8_1).f3.f0), .int .i64 ((rd_T44 l0 x8_1).f3.f1), .int .i64 ((rd_T44 l0 x8_1).f4.f0), .int .i64 ((rd_T44 l0 x8_1).f4.f1.f0), .int .i64 ((rd_T44 l0 x8_1).f4.f1.f1), .int .i64 ((rd_T44 l0 x8_1).f4.f2.f0), .int .i64 ((rd_T44 l0 x8_1).f4.f2.f1), .int .i64 ((rd_T44 l0 x8_1).f4.f3), .slice A186_13 ((rd_T44 l0 x8_1).f4.f4).length c186_13, .slice A186_14 ((rd_T44 l0 x8_1).f4.f5).length c186_14, .bool ((rd_T44 l0 x8_1).f4.f6), .int .i64 ((rd_T44 l0 x8_1).f5), .int .i64 ((rd_T44 l0 x8_1).f6.f0), .int .i64 ((rd_T44 l0 x8_1).f6.f1), .int .i64 ((rd_T44 l0 x8_1).f6.f2), .int .i64 ((rd_T44 l0 x8_1).f6.f3), .int .i64 ((rd_T44 l0 x8_1).f6.f4), .int .i64 ((rd_T44 l0 x8_1).f6.f5), .int .i64 ((rd_T44 l0 x8_1).f6.f6), .bool ((rd_T44 l0 x8_1).f7)]) (t := 44) (x := ?xxw8) ?hr ?hp ?hx ?hs ?h1 ?ht ?_; (case hg1 => rfl); (case hd1 => rfl); (case hg2 => rfl); (case hd2 => rfl); (case ho2 => rfl); (case hr => first | (go_simp; done) | (go_simp; rfl)); (case hp => rfl); (case hx => rfl); (case hs => rfl); (case h1 => rfl); (case ht => kernel_rfl); intro gb187 hg w8 hbox hb; have n0_ := Aside0.mk (Kd.S_below (Kd.S_elderB (ks_ HO_3.out) gb187 (Nat.le_of_eq hg.symm)) hb); have n1_ := Aside0.mk (below_step lb_ hb); have n2_ := Aside0.mk (hbox); have n3_ := Aside0.mk ((by rw [hg]; exact (below_size lb_) : w.heap.size ≤ gb187)); have n4_ := Aside0.mk ((by rw [hg]; exact (below_size lb_) : w.heap.size ≤ gb187)); clear HO_3; clear HB; have HO_3 := n0_; have HB := n1_; have BK187 := n2_; have GW187 := n3_; have GE187 := n4_; clear n0_ n1_ n2_ n3_ n4_; clear hb hbox hg; refine blk25_ BK187.out fun hcz9_0 hcz9_1 hcz9_2 hcz9_3 hcz9_4 hcz9_5 hcz9_6 hcz9_7 hcz9_8 hcz9_9 hcz9_10 hcz9_11 hcz9_12 hcz9_13 hcz9_14 hcz9_15 hcz9_16 hcz9_17 hcz9_18 hcz9_19 hcz9_20 hcz9_21 hcz9_22 hcz9_23 hcz9_24 hfz9_0 hfz9_1 hfz9_2 hfz9_3 hfz9_4 hfz9_5 hfz9_6 hfz9_7 hfz9_8 hfz9_9 hfz9_10 hfz9_11 hfz9_12 hfz9_13 hfz9_14 hfz9_15 hfz9_16 hfz9_17 hfz9_18 hfz9_19 hfz9_20 hfz9_21 hfz9_22 hfz9_23 hfz9_24 => ?_) | ((with_reducible refine gate_callee (f := 30) rfl ?_); refine goesL_ (some 14) rfl rfl Try.func30 (by kernel_rfl) rfl #[.agg #[.int .i64 ((rd_T44 l0 x8_1).f4.f0), .int .i64 ((rd_T44 l0 x8_1).f4.f1.f0), .int .i64 ((rd_T44 l0 x8_1).f4.f1.f1), .int .i64 ((rd_T44 l0 x8_1).f4.f2.f0), .int .i64 ((rd_T44 l0 x8_1).f4.f2.f1), .int .i64 ((rd_T44 l0 x8_1).f4.f3), .slice A186_13 ((rd_T44 l0 x8_1).f4.f4).length c186_13, .slice A186_14 ((rd_T44 l0 x8_1).f4.f5).length c186_14, .bool ((rd_T44 l0 x8_1).f4.f6)]] rfl (by (try simp only [List.map_toArray, List.map_cons, List.map_nil]); first | done | rfl | (simp only [List.length_drop, List.length_take]; rfl)) ?_; (with_reducible refine (althinglaw11_cloned.calls ((rd_T44 l0 x8_1).f4.f0) ((rd_T44 l0 x8_1).f4.f1.f0) ((rd_T44 l0 x8_1).f4.f1.f1) ((rd_T44 l0 x8_1).f4.f2.f0) ((rd_T44 l0 x8_1).f4.f2.f1) ((rd_T44 l0 x8_1).f4.f3) _ _ ((rd_T44 l0 x8_1).f4.f4) _ _ ((rd_T44 l0 x8_1).f4.f5) ((rd_T44 l0 x8_1).f4.f6) t188 t189 t190 t191 t192 t193 t194 t197 t200 _ ?side1 ?side2 ?side3 ?side4 A5.out).mono ?_); (case side1 => exact kc_ (Kd.C_below HR186_13.out HB.out)); (case side2 => exact HC186_13.out); (case side3 => exact kc_ (Kd.C_below HR186_14.out HB.out)); (case side4 => exact HC186_14.out); rintro e w10 ⟨v195, v198, rfl, ho0, ho1, hb⟩; refine ⟨_, rfl, ?_⟩; have n0_ := Aside0.mk (Kd.S_mono (Kd.S_told (Kd.S_told (Kd.S_old (ks_ HO_3.out) hb) (Kd.R_base ho0)) (Kd.R_base ho1)) (fun _ h_ => h_.1)); have n1_ := Aside0.mk (Kd.R_lower ho0 (below_size (by repeat (first | (with_reducible first | exact HB.out | apply below_alloc | apply pw_below_drewN | apply below_drew1 | refine below_set ?_ GE187.out) | exact HB.out)))); have n2_ := Aside0.mk (Kd.R_lower ho1 (below_size (by repeat (first | (with_reducible first | exact HB.out | apply below_alloc | apply pw_below_drewN | apply below_drew1 | refine below_set ?_ GE187.out) | exact HB.out)))); have n3_ := Aside0.mk (blk_below (kb_ BK187.out) hb); have n4_ := Aside0.mk (below_step (by repeat (first | (with_reducible first | exact HB.out | apply below_alloc | apply pw_below_drewN | apply below_drew1 | refine below_set ?_ GE187.out) | exact HB.out)) hb); clear HO_3; clear BK187; clear HB; have HO_3 := n0_; have HO196 := n1_; have HO199 := n2_; have BK187 := n3_; have HB := n4_; clear n0_ n1_ n2_ n3_ n4_; (try clear hb); (try clear hb2); (try clear hk); (try clear hi); (try clear ho0); (try clear ho1); refine blk25_ BK187.out fun hcz11_0 hcz11_1 hcz11_2 hcz11_3 hcz11_4 hcz11_5 hcz11_6 hcz11_7 hcz11_8 hcz11_9 hcz11_10 hcz11_11 hcz11_12 hcz11_13 hcz11_14 hcz11_15 hcz11_16 hcz11_17 hcz11_18 hcz11_19 hcz11_20 hcz11_21 hcz11_22 hcz11_23 hcz11_24 hfz11_0 hfz11_1 hfz11_2 hfz11_3 hfz11_4 hfz11_5 hfz11_6 hfz11_7 hfz11_8 hfz11_9 hfz11_10 hfz11_11 hfz11_12 hfz11_13 hfz11_14 hfz11_15 hfz11_16 hfz11_17 hfz11_18 hfz11_19 hfz11_20 hfz11_21 hfz11_22 hfz11_23 hfz11_24 => ?_; obtain ⟨Ao12, co12, eo12⟩ := Kd.R_slice HO196.out; subst eo12; obtain ⟨Ao13, co13, eo13⟩ := Kd.R_slice HO199.out; subst eo13) | ((with_reducible refine gate_store (t := 32) (p := 15) rfl ?_); refine store_event (t := 32) (p := 15) (v := ?vo_w14) (w1 := (((((((((w10.setCell ⟨gb187, 7, none⟩ (.int .i64 t188)).setCell ⟨gb187, 8, none⟩ (.int .i64 t189)).setCell ⟨gb187, 9, none⟩ (.int .i64 t190)).setCell ⟨gb187, 10, none⟩ (.int .i64 t191)).setCell ⟨gb187, 11, none⟩ (.int .i64 t192)).setCell ⟨gb187, 12, none⟩ (.int .i64 t193)).setCell ⟨gb187, 13, none⟩ (.slice Ao12 t194.length co12)).setCell ⟨gb187, 14, none⟩ (.slice Ao13 t197.length co13)).setCell ⟨gb187, 15, none⟩ (.bool t200))) ?hg ?ho ?hn ?hr ?_; (case ho => rfl); (case hg => rfl); (case hn => rfl); (case hr => first | (go_simp; done) | (go_simp; rfl)); intro w14 hw; have n0_ : Aside0 (Kd.S k44 44 w14 w.heap.size (fun k_ => some k_ ≠ (.slice Ao12 t194.length co12 : Value).ownBlock ∧ some k_ ≠ (.slice Ao13 t197.length co13 : Value).ownBlock ∧ k_ ≠ gb187) u3 x3_1) := ⟨(by rw [hw]; exact (by (with_reducible repeat (first | apply Kd.S_alloc | apply Kd.S_drewN | apply Kd.S_drew)); exact Kd.S_mono (Kd.S_far (p := ⟨gb187, 15, none⟩) (Kd.S_far (p := ⟨gb187, 14, none⟩) (Kd.S_far (p := ⟨gb187, 13, none⟩) (Kd.S_far (p := ⟨gb187, 12, none⟩) (Kd.S_far (p := ⟨gb187, 11, none⟩) (Kd.S_far (p := ⟨gb187, 10, none⟩) (Kd.S_far (p := ⟨gb187, 9, none⟩) (Kd.S_far (p := ⟨gb187, 8, none⟩) (Kd.S_far (p := ⟨gb187, 7, none⟩) (Kd.S_mono HO_3.out (fun k_ hk => (⟨hk, hk.1.1.2⟩ : _ ∧ k_ ≠ gb187))) (fun _ hk => hk.2) (.int .i64 t188)) (fun _ hk => hk.2) (.int .i64 t189)) (fun _ hk => hk.2) (.int .i64 t190)) (fun _ hk => hk.2) (.int .i64 t191)) (fun _ hk => hk.2) (.int .i64 t192)) (fun _ hk => hk.2) (.int .i64 t193)) (fun _ hk => hk.2) (.slice Ao12 t194.length co12)) (fun _ hk => hk.2) (.slice Ao13 t197.length co13)) (fun _ hk => hk.2) (.bool t200)) (fun _ hk => ⟨hk.1.1.2, ⟨hk.1.2, hk.1.1.1.2⟩⟩)))⟩; have n1_ : Aside0 (Kd.R k61 61 w14 w.heap.size (fun _ => True) (.slice Ao12 t194.length co12) t194) := ⟨(by rw [hw]; exact (by (with_reducible repeat (first | apply Kd.R_alloc | apply Kd.R_drewN | apply Kd.R_drew)); exact Kd.R_mono (Kd.R_far (p := ⟨gb187, 15, none⟩) (Kd.R_far (p := ⟨gb187, 14, none⟩) (Kd.R_far (p := ⟨gb187, 13, none⟩) (Kd.R_far (p := ⟨gb187, 12, none⟩) (Kd.R_far (p := ⟨gb187, 11, none⟩) (Kd.R_far (p := ⟨gb187, 10, none⟩) (Kd.R_far (p := ⟨gb187, 9, none⟩) (Kd.R_far (p := ⟨gb187, 8, none⟩) (Kd.R_far (p := ⟨gb187, 7, none⟩) (Kd.R_types HO196.out BK187.out (by decide)) (fun _ hk => hk.2) (.int .i64 t188)) (fun _ hk => hk.2) (.int .i64 t189)) (fun _ hk => hk.2) (.int .i64 t190)) (fun _ hk => hk.2) (.int .i64 t191)) (fun _ hk => hk.2) (.int .i64 t192)) (fun _ hk => hk.2) (.int .i64 t193)) (fun _ hk => hk.2) (.slice Ao12 t194.length co12)) (fun _ hk => hk.2) (.slice Ao13 t197.length co13)) (fun _ hk => hk.2) (.bool t200)) (fun _ hk => trivial)))⟩; have n2_ : Aside0 (Kd.R k46 46 w14 w.heap.size (fun _ => True) (.slice Ao13 t197.length co13) t197) := ⟨(by rw [hw]; exact (by (with_reducible repeat (first | apply Kd.R_alloc | apply Kd.R_drewN | apply Kd.R_drew)); exact Kd.R_mono (Kd.R_far (p := ⟨gb187, 15, none⟩) (Kd.R_far (p := ⟨gb187, 14, none⟩) (Kd.R_far (p := ⟨gb187, 13, none⟩) (Kd.R_far (p := ⟨gb187, 12, none⟩) (Kd.R_far (p := ⟨gb187, 11, none⟩) (Kd.R_far (p := ⟨gb187, 10, none⟩) (Kd.R_far (p := ⟨gb187, 9, none⟩) (Kd.R_far (p := ⟨gb187, 8, none⟩) (Kd.R_far (p := ⟨gb187, 7, none⟩) (Kd.R_types HO199.out BK187.out (by decide)) (fun _ hk => hk.2) (.int .i64 t188)) (fun _ hk => hk.2) (.int .i64 t189)) (fun _ hk => hk.2) (.int .i64 t190)) (fun _ hk => hk.2) (.int .i64 t191)) (fun _ hk => hk.2) (.int .i64 t192)) (fun _ hk => hk.2) (.int .i64 t193)) (fun _ hk => hk.2) (.slice Ao12 t194.length co12)) (fun _ hk => hk.2) (.slice Ao13 t197.length co13)) (fun _ hk => hk.2) (.bool t200)) (fun _ hk => trivial)))⟩; have n3_ : Aside0 (w14.heap[gb187]? = some (.cells #[.int .i64 ((rd_T44 l0 x8_1).f0.f0), .int .i64 ((rd_T44 l0 x8_1).f0.f1), .int .i64 ((rd_T44 l0 x8_1).f1), .int .i64 ((rd_T44 l0 x8_1).f2.f0), .int .i64 ((rd_T44 l0 x8_1).f2.f1), .int .i64 ((rd_T44 l0 x8_1).f3.f0), .int .i64 ((rd_T44 l0 x8_1).f3.f1), .int .i64 t188, .int .i64 t189, .int .i64 t190, .int .i64 t191, .int .i64 t192, .int .i64 t193, .slice Ao12 t194.length co12, .slice Ao13 t197.length co13, .bool t200, .int .i64 ((rd_T44 l0 x8_1).f5), .int .i64 ((rd_T44 l0 x8_1).f6.f0), .int .i64 ((rd_T44 l0 x8_1).f6.f1), .int .i64 ((rd_T44 l0 x8_1).f6.f2), .int .i64 ((rd_T44 l0 x8_1).f6.f3), .int .i64 ((rd_T44 l0 x8_1).f6.f4), .int .i64 ((rd_T44 l0 x8_1).f6.f5), .int .i64 ((rd_T44 l0 x8_1).f6.f6), .bool ((rd_T44 l0 x8_1).f7)] 44 (0, 0))) := ⟨(by rw [hw]; exact (by (with_reducible repeat (first | refine blk_drewN ?_ _ | refine blk_drew ?_ | refine blk_alloc ?_ _)); refine blk_put (cs := #[.int .i64 ((rd_T44 l0 x8_1).f0.f0), .int .i64 ((rd_T44 l0 x8_1).f0.f1), .int .i64 ((rd_T44 l0 x8_1).f1), .int .i64 ((rd_T44 l0 x8_1).f2.f0), .int .i64 ((rd_T44 l0 x8_1).f2.f1), .int .i64 ((rd_T44 l0 x8_1).f3.f0), .int .i64 ((rd_T44 l0 x8_1).f3.f1), .int .i64 t188, .int .i64 t189, .int .i64 t190, .int .i64 t191, .int .i64 t192, .int .i64 t193, .slice Ao12 t194.length co12, .slice Ao13 t197.length co13, .bool ((rd_T44 l0 x8_1).f4.f6), .int .i64 ((rd_T44 l0 x8_1).f5), .int .i64 ((rd_T44 l0 x8_1).f6.f0), .int .i64 ((rd_T44 l0 x8_1).f6.f1), .int .i64 ((rd_T44 l0 x8_1).f6.f2), .int .i64 ((rd_T44 l0 x8_1).f6.f3), .int .i64 ((rd_T44 l0 x8_1).f6.f4), .int .i64 ((rd_T44 l0 x8_1).f6.f5), .int .i64 ((rd_T44 l0 x8_1).f6.f6), .bool ((rd_T44 l0 x8_1).f7)]) ?_ 15 _ rfl; (with_reducible repeat (first | refine blk_drewN ?_ _ | refine blk_drew ?_ | refine blk_alloc ?_ _)); refine blk_put (cs := #[.int .i64 ((rd_T44 l0 x8_1).f0.f0), .int .i64 ((rd_T44 l0 x8_1).f0.f1), .int .i64 ((rd_T44 l0 x8_1).f1), .int .i64 ((rd_T44 l0 x8_1).f2.f0), .int .i64 ((rd_T44 l0 x8_1).f2.f1), .int .i64 ((rd_T44 l0 x8_1).f3.f0), .int .i64 ((rd_T44 l0 x8_1).f3.f1), .int .i64 t188, .int .i64 t189, .int .i64 t190, .int .i64 t191, .int .i64 t192, .int .i64 t193, .slice Ao12 t194.length co12, .slice A186_14 ((rd_T44 l0 x8_1).f4.f5).length c186_14, .bool ((rd_T44 l0 x8_1).f4.f6), .int .i64 ((rd_T44 l0 x8_1).f5), .int .i64 ((rd_T44 l0 x8_1).f6.f0), .int .i64 ((rd_T44 l0 x8_1).f6.f1), .int .i64 ((rd_T44 l0 x8_1).f6.f2), .int .i64 ((rd_T44 l0 x8_1).f6.f3), .int .i64 ((rd_T44 l0 x8_1).f6.f4), .int .i64 ((rd_T44 l0 x8_1).f6.f5), .int .i64 ((rd_T44 l0 x8_1).f6.f6), .bool ((rd_T44 l0 x8_1).f7)]) ?_ 14 _ rfl; (with_reducible repeat (first | refine blk_drewN ?_ _ | refine blk_drew ?_ | refine blk_alloc ?_ _)); refine blk_put (cs := #[.int .i64 ((rd_T44 l0 x8_1).f0.f0), .int .i64 ((rd_T44 l0 x8_1).f0.f1), .int .i64 ((rd_T44 l0 x8_1).f1), .int .i64 ((rd_T44 l0 x8_1).f2.f0), .int .i64 ((rd_T44 l0 x8_1).f2.f1), .int .i64 ((rd_T44 l0 x8_1).f3.f0), .int .i64 ((rd_T44 l0 x8_1).f3.f1), .int .i64 t188, .int .i64 t189, .int .i64 t190, .int .i64 t191, .int .i64 t192, .int .i64 t193, .slice A186_13 ((rd_T44 l0 x8_1).f4.f4).length c186_13, .slice A186_14 ((rd_T44 l0 x8_1).f4.f5).length c186_14, .bool ((rd_T44 l0 x8_1).f4.f6), .int .i64 ((rd_T44 l0 x8_1).f5), .int .i64 ((rd_T44 l0 x8_1).f6.f0), .int .i64 ((rd_T44 l0 x8_1).f6.f1), .int .i64 ((rd_T44 l0 x8_1).f6.f2), .int .i64 ((rd_T44 l0 x8_1).f6.f3), .int .i64 ((rd_T44 l0 x8_1).f6.f4), .int .i64 ((rd_T44 l0 x8_1).f6.f5), .int .i64 ((rd_T44 l0 x8_1).f6.f6), .bool ((rd_T44 l0 x8_1).f7)]) ?_ 13 _ rfl; (with_reducible repeat (first | refine blk_drewN ?_ _ | refine blk_drew ?_ | refine blk_alloc ?_ _)); refine blk_put (cs := #[.int .i64 ((rd_T44 l0 x8_1).f0.f0), .int .i64 ((rd_T44 l0 x8_1).f0.f1), .int .i64 ((rd_T44 l0 x8_1).f1), .int .i64 ((rd_T44 l0 x8_1).f2.f0), .int .i64 ((rd_T44 l0 x8_1).f2.f1), .int .i64 ((rd_T44 l0 x8_1).f3.f0), .int .i64 ((rd_T44 l0 x8_1).f3.f1), .int .i64 t188, .int .i64 t189, .int .i64 t190, .int .i64 t191, .int .i64 t192, .int .i64 ((rd_T44 l0 x8_1).f4.f3), .slice A186_13 ((rd_T44 l0 x8_1).f4.f4).length c186_13, .slice A186_14 ((rd_T44 l0 x8_1).f4.f5).length c186_14, .bool ((rd_T44 l0 x8_1).f4.f6), .int .i64 ((rd_T44 l0 x8_1).f5), .int .i64 ((rd_T44 l0 x8_1).f6.f0), .int .i64 ((rd_T44 l0 x8_1).f6.f1), .int .i64 ((rd_T44 l0 x8_1).f6.f2), .int .i64 ((rd_T44 l0 x8_1).f6.f3), .int .i64 ((rd_T44 l0 x8_1).f6.f4), .int .i64 ((rd_T44 l0 x8_1).f6.f5), .int .i64 ((rd_T44 l0 x8_1).f6.f6), .bool ((rd_T44 l0 x8_1).f7)]) ?_ 12 _ rfl; (with_reducible repeat (first | refine blk_drewN ?_ _ | refine blk_drew ?_ | refine blk_alloc ?_ _)); refine blk_put (cs := #[.int .i64 ((rd_T44 l0 x8_1).f0.f0), .int .i64 ((rd_T44 l0 x8_1).f0.f1), .int .i64 ((rd_T44 l0 x8_1).f1), .int .i64 ((rd_T44 l0 x8_1).f2.f0), .int .i64 ((rd_T44 l0 x8_1).f2.f1), .int .i64 ((rd_T44 l0 x8_1).f3.f0), .int .i64 ((rd_T44 l0 x8_1).f3.f1), .int .i64 t188, .int .i64 t189, .int .i64 t190, .int .i64 t191, .int .i64 ((rd_T44 l0 x8_1).f4.f2.f1), .int .i64 ((rd_T44 l0 x8_1).f4.f3), .slice A186_13 ((rd_T44 l0 x8_1).f4.f4).length c186_13, .slice A186_14 ((rd_T44 l0 x8_1).f4.f5).length c186_14, .bool ((rd_T44 l0 x8_1).f4.f6), .int .i64 ((rd_T44 l0 x8_1).f5), .int .i64 ((rd_T44 l0 x8_1).f6.f0), .int .i64 ((rd_T44 l0 x8_1).f6.f1), .int .i64 ((rd_T44 l0 x8_1).f6.f2), .int .i64 ((rd_T44 l0 x8_1).f6.f3), .int .i64 ((rd_T44 l0 x8_1).f6.f4), .int .i64 ((rd_T44 l0 x8_1).f6.f5), .int .i64 ((rd_T44 l0 x8_1).f6.f6), .bool ((rd_T44 l0 x8_1).f7)]) ?_ 11 _ rfl; (with_reducible repeat (first | refine blk_drewN ?_ _ | refine blk_drew ?_ | refine blk_alloc ?_ _)); refine blk_put (cs := #[.int .i64 ((rd_T44 l0 x8_1).f0.f0), .int .i64 ((rd_T44 l0 x8_1).f0.f1), .int .i64 ((rd_T44 l0 x8_1).f1), .int .i64 ((rd_T44 l0 x8_1).f2.f0), .int .i64 ((rd_T44 l0 x8_1).f2.f1), .int .i64 ((rd_T44 l0 x8_1).f3.f0), .int .i64 ((rd_T44 l0 x8_1).f3.f1), .int .i64 t188, .int .i64 t189, .int .i64 t190, .int .i64 ((rd_T44 l0 x8_1).f4.f2.f0), .int .i64 ((rd_T44 l0 x8_1).f4.f2.f1), .int .i64 ((rd_T44 l0 x8_1).f4.f3), .slice A186_13 ((rd_T44 l0 x8_1).f4.f4).length c186_13, .slice A186_14 ((rd_T44 l0 x8_1).f4.f5).length c186_14, .bool ((rd_T44 l0 x8_1).f4.f6), .int .i64 ((rd_T44 l0 x8_1).f5), .int .i64 ((rd_T44 l0 x8_1).f6.f0), .int .i64 ((rd_T44 l0 x8_1).f6.f1), .int .i64 ((rd_T44 l0 x8_1).f6.f2), .int .i64 ((rd_T44 l0 x8_1).f6.f3), .int .i64 ((rd_T44 l0 x8_1).f6.f4), .int .i64 ((rd_T44 l0 x8_1).f6.f5), .int .i64 ((rd_T44 l0 x8_1).f6.f6), .bool ((rd_T44 l0 x8_1).f7)]) ?_ 10 _ rfl; (with_reducible repeat (first | refine blk_drewN ?_ _ | refine blk_drew ?_ | refine blk_alloc ?_ _)); refine blk_put (cs := #[.int .i64 ((rd_T44 l0 x8_1).f0.f0), .int .i64 ((rd_T44 l0 x8_1).f0.f1), .int .i64 ((rd_T44 l0 x8_1).f1), .int .i64 ((rd_T44 l0 x8_1).f2.f0), .int .i64 ((rd_T44 l0 x8_1).f2.f1), .int .i64 ((rd_T44 l0 x8_1).f3.f0), .int .i64 ((rd_T44 l0 x8_1).f3.f1), .int .i64 t188, .int .i64 t189, .int .i64 ((rd_T44 l0 x8_1).f4.f1.f1), .int .i64 ((rd_T44 l0 x8_1).f4.f2.f0), .int .i64 ((rd_T44 l0 x8_1).f4.f2.f1), .int .i64 ((rd_T44 l0 x8_1).f4.f3), .slice A186_13 ((rd_T44 l0 x8_1).f4.f4).length c186_13, .slice A186_14 ((rd_T44 l0 x8_1).f4.f5).length c186_14, .bool ((rd_T44 l0 x8_1).f4.f6), .int .i64 ((rd_T44 l0 x8_1).f5), .int .i64 ((rd_T44 l0 x8_1).f6.f0), .int .i64 ((rd_T44 l0 x8_1).f6.f1), .int .i64 ((rd_T44 l0 x8_1).f6.f2), .int .i64 ((rd_T44 l0 x8_1).f6.f3), .int .i64 ((rd_T44 l0 x8_1).f6.f4), .int .i64 ((rd_T44 l0 x8_1).f6.f5), .int .i64 ((rd_T44 l0 x8_1).f6.f6), .bool ((rd_T44 l0 x8_1).f7)]) ?_ 9 _ rfl; (with_reducible repeat (first | refine blk_drewN ?_ _ | refine blk_drew ?_ | refine blk_alloc ?_ _)); refine blk_put (cs := #[.int .i64 ((rd_T44 l0 x8_1).f0.f0), .int .i64 ((rd_T44 l0 x8_1).f0.f1), .int .i64 ((rd_T44 l0 x8_1).f1), .int .i64 ((rd_T44 l0 x8_1).f2.f0), .int .i64 ((rd_T44 l0 x8_1).f2.f1), .int .i64 ((rd_T44 l0 x8_1).f3.f0), .int .i64 ((rd_T44 l0 x8_1).f3.f1), .int .i64 t188, .int .i64 ((rd_T44 l0 x8_1).f4.f1.f0), .int .i64 ((rd_T44 l0 x8_1).f4.f1.f1), .int .i64 ((rd_T44 l0 x8_1).f4.f2.f0), .int .i64 ((rd_T44 l0 x8_1).f4.f2.f1), .int .i64 ((rd_T44 l0 x8_1).f4.f3), .slice A186_13 ((rd_T44 l0 x8_1).f4.f4).length c186_13, .slice A186_14 ((rd_T44 l0 x8_1).f4.f5).length c186_14, .bool ((rd_T44 l0 x8_1).f4.f6), .int .i64 ((rd_T44 l0 x8_1).f5), .int .i64 ((rd_T44 l0 x8_1).f6.f0), .int .i64 ((rd_T44 l0 x8_1).f6.f1), .int .i64 ((rd_T44 l0 x8_1).f6.f2), .int .i64 ((rd_T44 l0 x8_1).f6.f3), .int .i64 ((rd_T44 l0 x8_1).f6.f4), .int .i64 ((rd_T44 l0 x8_1).f6.f5), .int .i64 ((rd_T44 l0 x8_1).f6.f6), .bool ((rd_T44 l0 x8_1).f7)]) ?_ 8 _ rfl; (with_reducible repeat (first | refine blk_drewN ?_ _ | refine blk_drew ?_ | refine blk_alloc ?_ _)); refine blk_put (cs := #[.int .i64 ((rd_T44 l0 x8_1).f0.f0), .int .i64 ((rd_T44 l0 x8_1).f0.f1), .int .i64 ((rd_T44 l0 x8_1).f1), .int .i64 ((rd_T44 l0 x8_1).f2.f0), .int .i64 ((rd_T44 l0 x8_1).f2.f1), .int .i64 ((rd_T44 l0 x8_1).f3.f0), .int .i64 ((rd_T44 l0 x8_1).f3.f1), .int .i64 ((rd_T44 l0 x8_1).f4.f0), .int .i64 ((rd_T44 l0 x8_1).f4.f1.f0), .int .i64 ((rd_T44 l0 x8_1).f4.f1.f1), .int .i64 ((rd_T44 l0 x8_1).f4.f2.f0), .int .i64 ((rd_T44 l0 x8_1).f4.f2.f1), .int .i64 ((rd_T44 l0 x8_1).f4.f3), .slice A186_13 ((rd_T44 l0 x8_1).f4.f4).length c186_13, .slice A186_14 ((rd_T44 l0 x8_1).f4.f5).length c186_14, .bool ((rd_T44 l0 x8_1).f4.f6), .int .i64 ((rd_T44 l0 x8_1).f5), .int .i64 ((rd_T44 l0 x8_1).f6.f0), .int .i64 ((rd_T44 l0 x8_1).f6.f1), .int .i64 ((rd_T44 l0 x8_1).f6.f2), .int .i64 ((rd_T44 l0 x8_1).f6.f3), .int .i64 ((rd_T44 l0 x8_1).f6.f4), .int .i64 ((rd_T44 l0 x8_1).f6.f5), .int .i64 ((rd_T44 l0 x8_1).f6.f6), .bool ((rd_T44 l0 x8_1).f7)]) ?_ 7 _ rfl; (with_reducible repeat (first | refine blk_drewN ?_ _ | refine blk_drew ?_ | refine blk_alloc ?_ _)); exact BK187.out))⟩; have n4_ : Aside0 (Below w.heap.size w w14) := ⟨(by rw [hw]; exact (by repeat (first | (with_reducible first | exact HB.out | apply below_alloc | apply pw_below_drewN | apply below_drew1 | refine below_set ?_ GE187.out) | exact HB.out)))⟩; clear hw; clear HO_3; clear HO196; clear HO199; clear BK187; clear HB; have HO_3 := n0_; have HO196 := n1_; have HO199 := n2_; have BK187 := n3_; have HB := n4_; clear n0_ n1_ n2_ n3_ n4_) | ((with_reducible refine gate_dst (N := 17) rfl ?_); (try (refine gate_guard (by rfl) ?_; dsimp only)); refine blk_load_event ?lg (N := 17) ?ld (t := 44) (x := ?lxxz15) ?lo (g := gb187) ?lx (cs := _) BK187.out ?lD ?lt ?_; (case lg => rfl); (case ld => rfl); (case lo => rfl); (case lx => first | rfl | (go_simp; done) | (go_simp; rfl)); (case lD => exact ⟨_, Try.underlying44, rfl⟩); (case lt => kernel_rfl)) | ((with_reducible refine gate_builtin (b := .append) (xs := #[.tmp 16, .tmp 18]) rfl ?_); at_builtin; refine Kd.S_append k44 (w0 := w) w.heap.size rfl (.tmp 16) (.tmp 18) 22 44 (.agg #[(.int .i64 0), (.int .i64 0), (.int .i64 0), (.int .i64 0), (.int .i64 0), (.int .i64 0), (.int .i64 0), (.int .i64 0), (.int .i64 0), (.int .i64 0), (.int .i64 0), (.int .i64 0), (.int .i64 0), (.slice none 0 0), (.slice none 0 0), (.bool false), (.int .i64 0), (.int .i64 0), (.int .i64 0), (.int .i64 0), (.int .i64 0), (.int .i64 0), (.int .i64 0), (.int .i64 0), (.bool false)]) 232 rfl Try.underlying22 info44 rfl (by decide) (by omega) u3 x3_1 (⟨(⟨(rd_T44 l0 x8_1).f0.f0, (rd_T44 l0 x8_1).f0.f1⟩ : S24), (rd_T44 l0 x8_1).f1, (⟨(rd_T44 l0 x8_1).f2.f0, (rd_T44 l0 x8_1).f2.f1⟩ : S40), (⟨(rd_T44 l0 x8_1).f3.f0, (rd_T44 l0 x8_1).f3.f1⟩ : S40), (⟨t188, (⟨t189, t190⟩ : S26), (⟨t191, t192⟩ : S28), t193, t194, t197, t200⟩ : S32), (rd_T44 l0 x8_1).f5, (⟨(rd_T44 l0 x8_1).f6.f0, (rd_T44 l0 x8_1).f6.f1, (rd_T44 l0 x8_1).f6.f2, (rd_T44 l0 x8_1).f6.f3, (rd_T44 l0 x8_1).f6.f4, (rd_T44 l0 x8_1).f6.f5, (rd_T44 l0 x8_1).f6.f6⟩ : S42), (rd_T44 l0 x8_1).f7⟩ : S44) [.int .i64 ((rd_T44 l0 x8_1).f0.f0), .int .i64 ((rd_T44 l0 x8_1).f0.f1), .int .i64 ((rd_T44 l0 x8_1).f1), .int .i64 ((rd_T44 l0 x8_1).f2.f0), .int .i64 ((rd_T44 l0 x8_1).f2.f1), .int .i64 ((rd_T44 l0 x8_1).f3.f0), .int .i64 ((rd_T44 l0 x8_1).f3.f1), .int .i64 t188, .int .i64 t189, .int .i64 t190, .int .i64 t191, .int .i64 t192, .int .i64 t193, .slice Ao12 t194.length co12, .slice Ao13 t197.length co13, .bool t200, .int .i64 ((rd_T44 l0 x8_1).f5), .int .i64 ((rd_T44 l0 x8_1).f6.f0), .int .i64 ((rd_T44 l0 x8_1).f6.f1), .int .i64 ((rd_T44 l0 x8_1).f6.f2), .int .i64 ((rd_T44 l0 x8_1).f6.f3), .int .i64 ((rd_T44 l0 x8_1).f6.f4), .int .i64 ((rd_T44 l0 x8_1).f6.f5), .int .i64 ((rd_T44 l0 x8_1).f6.f6), .bool ((rd_T44 l0 x8_1).f7)] (fun k_ => k_ ≠ gb187) (fun k_ => some k_ = (.slice Ao12 t194.length co12 : Value).ownBlock ∨ some k_ = (.slice Ao13 t197.length co13 : Value).ownBlock) rfl rfl ?aP (fun k_ hk_ => hk_.elim (fun h_ => ((Kd.R_mono (ok' := fun k_ => ((fun k_ => k_ ≠ gb187)) k_ ∧ some k_ ≠ (u3 : Value).ownBlock) (Kd.R_types (Kd.R_apart' (HO196.out) (Kd.S_typed HO_3.out) (by decide)) BK187.out (by decide)) (fun k_ hk => ⟨hk.2, hk.1.2⟩))).1 k_ h_.symm) (fun h_ => ((Kd.R_mono (ok' := fun k_ => ((fun k_ => k_ ≠ gb187)) k_ ∧ some k_ ≠ (u3 : Value).ownBlock) (Kd.R_types (Kd.R_apart' (HO199.out) (Kd.S_typed HO_3.out) (by decide)) BK187.out (by decide)) (fun k_ hk => ⟨hk.2, hk.1.2⟩))).1 k_ h_.symm)) ?aF ?aO ?aB ?aS ?aL ?_; (case aP => exact k44_mkM _ _ _ (⟨(⟨(rd_T44 l0 x8_1).f0.f0, (rd_T44 l0 x8_1).f0.f1⟩ : S24), (rd_T44 l0 x8_1).f1, (⟨(rd_T44 l0 x8_1).f2.f0, (rd_T44 l0 x8_1).f2.f1⟩ : S40), (⟨(rd_T44 l0 x8_1).f3.f0, (rd_T44 l0 x8_1).f3.f1⟩ : S40), (⟨t188, (⟨t189, t190⟩ : S26), (⟨t191, t192⟩ : S28), t193, t194, t197, t200⟩ : S32), (rd_T44 l0 x8_1).f5, (⟨(rd_T44 l0 x8_1).f6.f0, (rd_T44 l0 x8_1).f6.f1, (rd_T44 l0 x8_1).f6.f2, (rd_T44 l0 x8_1).f6.f3, (rd_T44 l0 x8_1).f6.f4, (rd_T44 l0 x8_1).f6.f5, (rd_T44 l0 x8_1).f6.f6⟩ : S42), (rd_T44 l0 x8_1).f7⟩ : S44) (Kd.R_mono (Kd.R_tight rfl (Kd.R_mono (ok' := fun k_ => ((fun k_ => k_ ≠ gb187)) k_ ∧ some k_ ≠ (u3 : Value).ownBlock) (Kd.R_types (Kd.R_apart' (HO196.out) (Kd.S_typed HO_3.out) (by decide)) BK187.out (by decide)) (fun k_ hk => ⟨hk.2, hk.1.2⟩))) (fun _ h_ => Or.inl h_)) (Kd.R_mono (Kd.R_tight rfl (Kd.R_mono (ok' := fun k_ => ((fun k_ => k_ ≠ gb187)) k_ ∧ some k_ ≠ (u3 : Value).ownBlock) (Kd.R_types (Kd.R_apart' (HO199.out) (Kd.S_typed HO_3.out) (by decide)) BK187.out (by decide)) (fun k_ hk => ⟨hk.2, hk.1.2⟩))) (fun _ h_ => Or.inr (h_)))); (case aB => exact (by repeat (first | (with_reducible first | exact HB.out | apply below_alloc | apply pw_below_drewN | apply below_drew1 | refine below_set ?_ GE187.out) | exact HB.out))); (case aF => exact (fun k_ hk => Kd.freshB (g := gb187) (o := .cells #[.int .i64 ((rd_T44 l0 x8_1).f0.f0), .int .i64 ((rd_T44 l0 x8_1).f0.f1), .int .i64 ((rd_T44 l0 x8_1).f1), .int .i64 ((rd_T44 l0 x8_1).f2.f0), .int .i64 ((rd_T44 l0 x8_1).f2.f1), .int .i64 ((rd_T44 l0 x8_1).f3.f0), .int .i64 ((rd_T44 l0 x8_1).f3.f1), .int .i64 t188, .int .i64 t189, .int .i64 t190, .int .i64 t191, .int .i64 t192, .int .i64 t193, .slice Ao12 t194.length co12, .slice Ao13 t197.length co13, .bool t200, .int .i64 ((rd_T44 l0 x8_1).f5), .int .i64 ((rd_T44 l0 x8_1).f6.f0), .int .i64 ((rd_T44 l0 x8_1).f6.f1), .int .i64 ((rd_T44 l0 x8_1).f6.f2), .int .i64 ((rd_T44 l0 x8_1).f6.f3), .int .i64 ((rd_T44 l0 x8_1).f6.f4), .int .i64 ((rd_T44 l0 x8_1).f6.f5), .int .i64 ((rd_T44 l0 x8_1).f6.f6), .bool ((rd_T44 l0 x8_1).f7)] 44 (0, 0)) (kb_ BK187.out) k_ hk)); (case aO => exact (by (with_reducible repeat (first | apply Kd.S_alloc | apply Kd.S_drewN | apply Kd.S_drew)); exact Kd.S_mono HO_3.out (fun k_ hk => ⟨hk.2.2, fun e_ => e_.elim (fun h_ => hk.1 h_) (fun h_ => hk.2.1 h_)⟩))); (case aS => exact (below_size (by repeat (first | (with_reducible first | exact HB.out | apply below_alloc | apply pw_below_drewN | apply below_drew1 | refine below_set ?_ GE187.out) | exact HB.out)))); (case aL => have := LMc6.out; omega); intro v202 w16 ho hb hg hat; rw [← Ny201.out] at ho; have n0_ := Aside0.mk (blk_grown (kb_ BK187.out) hg (Kd.S_away HO_3.out (fun _ hk => hk.2.2))); have n1_ := Aside0.mk (hb); have n2_ := Aside0.mk (ho); clear BK187; clear HB; clear HO_3; clear HO196; clear HO199; have BK187 := n0_; have HB := n1_; have HO203 := n2_; clear n0_ n1_ n2_; clear ho hb hg hat))
           go_roundg k1
           case measure => have := HK1.out; omega
           case rel => exact ⟨(y201), (wrap64 (x8_1 + 1)), (by first | rfl | (simp; done) | (simp [*]; done)), H', ⟨by have := HK1.out; omega⟩, ⟨by (with_reducible repeat (first | apply Kd.S_alloc | apply Kd.S_drewN | apply Kd.S_drew)); exact Kd.S_mono HO203.out (fun _ hk => trivial)⟩, ⟨by repeat (first | (with_reducible first | exact HB.out | apply below_alloc | apply pw_below_drewN | apply below_drew1 | refine below_set ?_ GE187.out) | exact HB.out)⟩⟩
         · rw [if_neg c6] at H
           exact absurd H (by simp)
       · rw [if_neg c4] at H
         exact absurd H (by simp)
     · rw [if_neg c3] at H
       exact absurd H (by simp)
   · rw [if_neg c2] at H
     have c2b0 : decide (x8_1 < (l0.length : Int)) = false := decide_eq_false c2
     clear c2
     obtain rfl := Option.some.inj H
     go_wp2
     go_ret
     exact ⟨_, by first | rfl | (simp [errW_none, errW_some] <;> rfl) | (simp [*, errW_none, errW_some] <;> rfl), by (with_reducible repeat (first | apply Kd.S_alloc | apply Kd.S_drewN | apply Kd.S_drew)); exact HO_3.out, by repeat (first | (with_reducible first | exact HB.out | apply below_alloc | apply pw_below_drewN | apply below_drew1) | exact HB.out)⟩
end Go.Proofs.Ytklbmdakoeoplaa.X
end
section
namespace Go.Proofs.Ytklbmdakoeoplaa.Strs
open Go.RowKit Go.Proofs.YtklbmdakoeoplaaW.PrintWords Go.Proofs.YtklbmdakoeoplaaW.PrintLast Go.Proofs.YtklbmdakoeoplaaW.PrintMore Go.Proofs.Ytklbmdakoeoplaa.X
set_option linter.unusedSimpArgs false
set_option linter.unusedVariables false
def few20 (l : List Rc) : Prop := l.length ≤ 20 ∧ ∀ x ∈ l, small x.f4.f4 x.f4.f5
theorem few11_l0 (l : List Rc) : ∀ dd i, i + dd = min l.length 21 → (∀ x ∈ l.take i, small x.f4.f4 x.f4.f5) → ∃ q, Ev (fun k => althinglaw11_Few.l0 k l (i : Int)) q ∧ (q = true → few20 l)
  | 0, i, hi, ht => by
    refine ⟨decide ((l.length : Int) ≤ 20), Ev.step (f := fun k => althinglaw11_Few.j1 k l (i : Int) false) (fun k => ?_) (Ev.step (f := fun _ => some (decide ((l.length : Int) ≤ 20))) (fun k => ?_) (Ev.const rfl)), fun e => ?_⟩
    · simp only [althinglaw11_Few.l0]
      by_cases h1 : (i : Int) < (l.length : Int)
      · rw [if_pos h1, decide_eq_false (by omega)]
      · rw [if_neg h1]
    · simp only [althinglaw11_Few.j1]; rw [if_neg (by simp)]
    · rw [decide_eq_true_eq] at e
      have hl : i = l.length := by omega
      rw [hl, List.take_length] at ht
      exact ⟨by omega, ht⟩
  | dd + 1, i, hi, ht => by
    have hil : i < l.length := by omega
    obtain ⟨q, hq, hp⟩ := few_ex [l[i].f4] (by simp)
    have hstep : ∀ k, althinglaw11_Few.l0 (k + 1) l (i : Int) = althinglaw11_Few.j1 k l (i : Int) true := fun k => by
      simp only [althinglaw11_Few.l0]; rw [if_pos (by omega), decide_eq_true (by omega)]
    cases q with
    | false =>
      refine ⟨false, Ev.step hstep (Ev.step (f := fun k => (althinglaw05_Few.f k [l[i].f4]).bind fun t => if t = true then althinglaw11_Few.l0 k l ((i + 1 : Nat) : Int) else some false) (fun k => ?_) (Ev.bindF hq (Ev.const rfl))), fun e => by cases e⟩
      simp only [althinglaw11_Few.j1]; rw [if_pos trivial, if_pos (by omega), if_pos (by omega), rdRc l i hil, w1 i (by omega)]
    | true =>
      have hs : small l[i].f4.f4 l[i].f4.f5 := hp rfl _ List.mem_cons_self
      obtain ⟨q2, hq2, hp2⟩ := few11_l0 l dd (i + 1) (by omega) (fun x hx => by
        rw [List.take_succ_eq_append_getElem hil, List.mem_append, List.mem_singleton] at hx
        rcases hx with hx | rfl
        · exact ht x hx
        · exact hs)
      refine ⟨q2, Ev.step hstep (Ev.step (f := fun k => (althinglaw05_Few.f k [l[i].f4]).bind fun t => if t = true then althinglaw11_Few.l0 k l ((i + 1 : Nat) : Int) else some false) (fun k => ?_) (Ev.bindT hq hq2)), hp2⟩
      simp only [althinglaw11_Few.j1]; rw [if_pos trivial, if_pos (by omega), if_pos (by omega), rdRc l i hil, w1 i (by omega)]
theorem few11_ex (l : List Rc) : ∃ q, Ev (fun k => althinglaw11_Few.f k l) q ∧ (q = true → few20 l) := few11_l0 l (min l.length 21) 0 (by omega) (by simp)
def slotStep (rep : Int) (n : Int) (x : Rc) : Int := if x.f0.f0 = rep then mx n (mn x.f0.f1 1048576) else n
def slotF (l : List Rc) (rep : Int) : Int := l.foldl (slotStep rep) 0
theorem slot_l0 (l : List Rc) (rep : Int) (hl : l.length ≤ 1000) : ∀ dd i (n : Int), i + dd = l.length → Ev (fun k => index_Slot.l0 k rep n l (l.length : Int) (i : Int)) (wrap64 ((l.drop i).foldl (slotStep rep) n + 1))
  | 0, i, n, hi => by
    refine Ev.step (f := fun _ => some (wrap64 (n + 1))) (fun k => ?_) (Ev.const ?_)
    · simp only [index_Slot.l0]; rw [if_neg (by omega)]
    · rw [List.drop_eq_nil_of_le (by omega)]; rfl
  | dd + 1, i, n, hi => by
    have hil : i < l.length := by omega
    rw [List.drop_eq_getElem_cons hil, List.foldl_cons]
    refine Ev.step (fun k => ?_) (slot_l0 l rep hl dd (i + 1) (slotStep rep n l[i]) (by omega))
    simp only [index_Slot.l0]
    rw [if_pos (by omega), if_pos (by omega), if_pos (by omega), rdRc l i hil, w1 i (by omega)]
    unfold slotStep
    by_cases h1 : l[i].f0.f0 = rep
    · rw [if_pos h1, if_pos h1]
    · rw [if_neg h1, if_neg h1]
theorem slot_is (l : List Rc) (rep : Int) (hl : l.length ≤ 1000) : Ev (fun k => index_Slot.f k l rep) (wrap64 (slotF l rep + 1)) := slot_l0 l rep hl l.length 0 0 (by omega)
abbrev D7 := Int × Int × Int × Int × Int × Int × Int
def withD (d : D7) (i s : Int) : D7 := (if i = 0 then max d.1 s else d.1, if i = 1 then max d.2.1 s else d.2.1, if i = 2 then max d.2.2.1 s else d.2.2.1, if i = 3 then max d.2.2.2.1 s else d.2.2.2.1, if i = 4 then max d.2.2.2.2.1 s else d.2.2.2.2.1, if i = 5 then max d.2.2.2.2.2.1 s else d.2.2.2.2.2.1, if i = 6 then max d.2.2.2.2.2.2 s else d.2.2.2.2.2.2)
def attrStep (s : Int × D7) (x : Rc) : Int × D7 := (mx s.1 (wrap64 (mn x.f5 1099511627775 + 1)), withD s.2 x.f0.f0 x.f0.f1)
theorem attrs_l0 (l : List Rc) (hl : l.length ≤ 1000) : ∀ dd i (s : Int × D7), i + dd = l.length → Ev (fun k => index_Attrs.l0 k s.1 l (l.length : Int) (i : Int) s.2.1 s.2.2.1 s.2.2.2.1 s.2.2.2.2.1 s.2.2.2.2.2.1 s.2.2.2.2.2.2.1 s.2.2.2.2.2.2.2) ((l.drop i).foldl attrStep s)
  | 0, i, s, hi => by
    refine Ev.step (f := fun _ => some s) (fun k => ?_) (Ev.const ?_)
    · simp only [index_Attrs.l0]; rw [if_neg (by omega)]
    · rw [List.drop_eq_nil_of_le (by omega)]; rfl
  | dd + 1, i, s, hi => by
    have hil : i < l.length := by omega
    rw [List.drop_eq_getElem_cons hil, List.foldl_cons]
    refine Ev.step (fun k => ?_) (attrs_l0 l hl dd (i + 1) (attrStep s l[i]) (by omega))
    simp only [index_Attrs.l0]
    rw [if_pos (by omega), if_pos (by omega), if_pos (by omega), rdRc l i hil, w1 i (by omega)]
    rfl
def attrsB (l : List Rc) (i0 i1 d0 d1 d2 : Int) (r : List Rd) (w : List Wr) (seq : Int) (d : D7) : Int × D7 := (againstB l i0 i1 d0 d1 d2 r w).foldl attrStep (seq, d)
theorem against_f (l : List Rc) (h : fewR l) (i0 i1 d0 d1 d2 d3 d4 d5 : Int) (r : List Rd) (w : List Wr) (m : Bool) (hs : small r w) : index_Against.f l i0 i1 d0 d1 d2 d3 d4 d5 r w m = some (againstB l i0 i1 d0 d1 d2 r w) := by
  unfold index_Against.f
  rw [(fewRB_iff l).2 h, (smallB_iff r w).2 hs]; rfl
theorem against_sub (l : List Rc) (i0 i1 d0 d1 d2 : Int) (r : List Rd) (w : List Wr) : (againstB l i0 i1 d0 d1 d2 r w).Sublist l := List.filter_sublist.trans (knownB_sub l)
theorem attrs_is (l : List Rc) (h : fewR l) (i0 i1 d0 d1 d2 d3 d4 d5 : Int) (r : List Rd) (w : List Wr) (m : Bool) (hs : small r w) (seq : Int) (d : D7) : Ev (fun k => index_Attrs.f k l i0 i1 d0 d1 d2 d3 d4 d5 r w m seq d.1 d.2.1 d.2.2.1 d.2.2.2.1 d.2.2.2.2.1 d.2.2.2.2.2.1 d.2.2.2.2.2.2) (attrsB l i0 i1 d0 d1 d2 r w seq d) := by
  have hl := (against_sub l i0 i1 d0 d1 d2 r w).length_le
  have hh := h.1
  refine Ev.congr (fun k => ?_) (attrs_l0 (againstB l i0 i1 d0 d1 d2 r w) (by omega) (againstB l i0 i1 d0 d1 d2 r w).length 0 (seq, d) (by omega))
  unfold index_Attrs.f
  rw [against_f l h _ _ _ _ _ _ _ _ _ _ _ hs]; rfl
def aW : List Wr := [⟨⟨#[97]⟩, ⟨#[]⟩⟩]
def aR : Rc := ⟨⟨0, 3⟩, 1, ⟨0, 0⟩, ⟨0, 0⟩, ⟨1, ⟨0, 1⟩, ⟨1, 0⟩, 1, [], aW, false⟩, 5, ⟨0, 0, 0, 0, 0, 0, 0⟩, false⟩
theorem aW_small : small [] aW := ⟨by decide, by decide, by simp, by unfold aW; simp; decide⟩
theorem aR_few : fewR [aR] := ⟨by decide, fun x hx => by
  rw [List.mem_singleton] at hx
  subst hx; exact aW_small⟩
theorem aR_inter : interB 1 0 1 [] aW 1 0 2 [] aW = true := by
  have h : meetB (keysB [] aW) (keysB [] aW) = true := by
    rw [meetB_iff]
    refine ⟨⟨#[97]⟩, ?_, ?_⟩ <;> exact ((joinB_joined (rk []) (wk aW)).2 _).2 (.inr (by unfold wk aW; simp))
  unfold interB
  rw [h]; decide
theorem aR_against : againstB [aR] 1 1 1 0 2 [] aW = [aR] := by
  have h : outB 1 1 1 0 2 [] aW aR = false := by
    unfold outB
    rw [show interB aR.f4.f0 aR.f4.f1.f0 aR.f4.f1.f1 aR.f4.f4 aR.f4.f5 1 0 2 [] aW = true from aR_inter]
    decide
  unfold againstB
  rw [show knownB [aR] = [aR] from rfl, List.filter_cons, h]; rfl
theorem awake11_is : Ev (fun k => althinglaw11_awake.f k) true := by
  unfold althinglaw11_awake.f althinglaw11_some.f
  simp only [Option.bind_some]
  refine Ev.bind (attrs_is [aR] aR_few 1 1 1 0 2 1 0 1 [] aW false aW_small 1 (0, 0, 0, 0, 0, 0, 0)) ?_
  have e : attrsB [aR] 1 1 1 0 2 [] aW 1 (0, 0, 0, 0, 0, 0, 0) = (6, 3, 0, 0, 0, 0, 0, 0) := by
    unfold attrsB
    rw [aR_against]
    simp [List.foldl, attrStep, withD, aR, mx, mn, wrap64]
    decide
  rw [e]
  refine Ev.congr (fun k => if_pos rfl) (Ev.congr (fun k => if_pos rfl) (Ev.bind (slot_is [aR] 0 (by simp)) (Ev.const ?_)))
  have e2 : wrap64 (slotF [aR] 0 + 1) = 4 := by simp [slotF, slotStep, List.foldl, aR, mx, mn, wrap64]
  rw [e2]; rfl
end Go.Proofs.Ytklbmdakoeoplaa.Strs
end
section
namespace Go.Proofs.Ytklbmdakoeoplaa.Pure
open Go.RowKit Go.Proofs.Ytklbmdakoeoplaa.Strs Go.Proofs.YtklbmdakoeoplaaW.PrintWords Go.Proofs.YtklbmdakoeoplaaW.PrintLast Go.Proofs.YtklbmdakoeoplaaW.PrintMore Go.Proofs.Ytklbmdakoeoplaa.X
set_option linter.unusedSimpArgs false
set_option linter.unusedVariables false
def hasB (d : S42) (i : S24) : Bool := decide (0 ≤ i.f0 ∧ i.f0 < 7 ∧ 1 ≤ i.f1 ∧ i.f1 ≤ at7 d.f0 d.f1 d.f2 d.f3 d.f4 d.f5 d.f6 i.f0)
def recInter (x y : Rc) : Bool := interB x.f4.f0 x.f4.f1.f0 x.f4.f1.f1 x.f4.f4 x.f4.f5 y.f4.f0 y.f4.f1.f0 y.f4.f1.f1 y.f4.f4 y.f4.f5
def orderedB (x y : Rc) : Bool := !recInter x y || hasB x.f6 y.f0 || hasB y.f6 x.f0
theorem ordered_is (x y : Rc) (hx : small x.f4.f4 x.f4.f5) (hy : small y.f4.f4 y.f4.f5) : Ev (fun k => index_Ordered.f k x.f0.f0 x.f0.f1 x.f1 x.f2.f0 x.f2.f1 x.f3.f0 x.f3.f1 x.f4.f0 x.f4.f1.f0 x.f4.f1.f1 x.f4.f2.f0 x.f4.f2.f1 x.f4.f3 x.f4.f4 x.f4.f5 x.f4.f6 x.f5 x.f6.f0 x.f6.f1 x.f6.f2 x.f6.f3 x.f6.f4 x.f6.f5 x.f6.f6 x.f7 y.f0.f0 y.f0.f1 y.f1 y.f2.f0 y.f2.f1 y.f3.f0 y.f3.f1 y.f4.f0 y.f4.f1.f0 y.f4.f1.f1 y.f4.f2.f0 y.f4.f2.f1 y.f4.f3 y.f4.f4 y.f4.f5 y.f4.f6 y.f5 y.f6.f0 y.f6.f1 y.f6.f2 y.f6.f3 y.f6.f4 y.f6.f5 y.f6.f6 y.f7) (orderedB x y) := by
  have hin := inter_is x.f4.f0 x.f4.f1.f0 x.f4.f1.f1 x.f4.f2.f0 x.f4.f2.f1 x.f4.f3 x.f4.f4 x.f4.f5 x.f4.f6 y.f4.f0 y.f4.f1.f0 y.f4.f1.f1 y.f4.f2.f0 y.f4.f2.f1 y.f4.f3 y.f4.f4 y.f4.f5 y.f4.f6 hx hy
  unfold orderedB index_Ordered.f
  cases hi : recInter x y with
  | false => exact Ev.bindF (by unfold recInter at hi; rw [hi] at hin; exact hin) (Ev.const rfl)
  | true =>
    refine Ev.bindT (by unfold recInter at hi; rw [hi] at hin; exact hin) ?_
    refine Ev.const ?_
    show (some (hasB x.f6 y.f0)).bind _ = _
    rw [Option.bind_some]
    cases h1 : hasB x.f6 y.f0 with
    | true => rfl
    | false => rw [if_neg (by simp)]; rfl
end Go.Proofs.Ytklbmdakoeoplaa.Pure
end
section
namespace Go.Proofs.Ytklbmdakoeoplaa.Strs
open Go.RowKit Go.Proofs.YtklbmdakoeoplaaW.PrintWords Go.Proofs.YtklbmdakoeoplaaW.PrintLast Go.Proofs.YtklbmdakoeoplaaW.PrintMore Go.Proofs.Ytklbmdakoeoplaa.X
set_option linter.unusedSimpArgs false
set_option linter.unusedVariables false
theorem before_l0 (a b : ByteArray) (hb : b.size ≤ 2000) : ∀ d i k, i + d = b.size → i ≤ a.size → a.data.toList.take i = b.data.toList.take i → d + 1 ≤ k →
    althingref04_Before.l0 k a b (i : Int) = some (decide (a.data.toList.drop i < b.data.toList.drop i))
  | 0, i, k, h1, h2, h3, hk => by
    obtain ⟨k, rfl⟩ : ∃ k', k = k' + 1 := ⟨k - 1, by omega⟩
    unfold althingref04_Before.l0
    have hd : b.data.toList.drop i = [] := List.drop_eq_nil_of_le (by rw [← sz_len]; omega)
    rw [if_neg (by omega), hd]
    simp
  | d + 1, i, k, h1, h2, h3, hk => by
    obtain ⟨k, rfl⟩ : ∃ k', k = k' + 1 := ⟨k - 1, by omega⟩
    have hbl : i < b.data.toList.length := by rw [← sz_len]; omega
    unfold althingref04_Before.l0
    rw [if_pos (by omega), drop_at _ i hbl]
    by_cases hia : i = a.size
    · have hd : a.data.toList.drop i = [] := List.drop_eq_nil_of_le (by rw [← sz_len]; omega)
      rw [if_pos (by omega), hd]
      simp
    · have hal : i < a.data.toList.length := by rw [← sz_len]; omega
      rw [if_neg (by omega), if_pos (by omega), if_pos (by omega), bt_el a i hal, bt_el b i hbl, drop_at _ i hal]
      by_cases he : a.data.toList[i] = b.data.toList[i]
      · rw [if_pos (by rw [he]), show wrap64 ((i : Int) + 1) = ((i + 1 : Nat) : Int) by unfold wrap64; omega]
        rw [before_l0 a b hb d (i + 1) k (by omega) (by omega) (by rw [List.take_succ_eq_append_getElem hal, List.take_succ_eq_append_getElem hbl, h3, he]) (by omega)]
        congr 1
        rw [decide_eq_decide, List.cons_lt_cons_iff, he]
        constructor
        · intro h; exact .inr ⟨rfl, h⟩
        · rintro (h | h)
          · exact absurd h (by simp)
          · exact h.2
      · have hne : (a.data.toList[i]).toNat ≠ (b.data.toList[i]).toNat := fun e => he (UInt8.toNat_inj.1 e)
        rw [if_neg (by omega)]
        congr 1
        rw [decide_eq_decide, List.cons_lt_cons_iff]
        constructor
        · intro h; exact .inl (UInt8.lt_iff_toNat_lt.2 (by omega))
        · rintro (h | h)
          · have := UInt8.lt_iff_toNat_lt.1 h; omega
          · exact absurd h.1 he
theorem before_is (a b : ByteArray) (hb : b.size ≤ 2000) (k : Nat) (hk : 2001 ≤ k) : althingref04_Before.f k a b = some (decide (blt a b)) := by
  have := before_l0 a b hb b.size 0 k (by omega) (by omega) (by simp) (by omega)
  simpa [althingref04_Before.f, blt] using this
theorem in_l0 (l : List ByteArray) (x : ByteArray) (hl : l.length ≤ 2000) : ∀ d i k, i + d = l.length → d + 1 ≤ k → althingref04_In.l0 k l x (i : Int) = some (inB (l.drop i) x)
  | 0, i, k, h1, hk => by
    obtain ⟨k, rfl⟩ : ∃ k', k = k' + 1 := ⟨k - 1, by omega⟩
    unfold althingref04_In.l0
    rw [if_neg (by omega), List.drop_eq_nil_of_le (by omega)]
    rfl
  | d + 1, i, k, h1, hk => by
    obtain ⟨k, rfl⟩ : ∃ k', k = k' + 1 := ⟨k - 1, by omega⟩
    have hil : i < l.length := by omega
    have e : rdOf ByteArray.empty l (i : Int) = l[i] := by unfold rdOf; rw [Int.toNat_natCast]; simp [List.getD_eq_getElem?_getD, hil]
    unfold althingref04_In.l0
    rw [if_pos (by omega), if_pos (by omega), e, List.drop_eq_getElem_cons hil]
    by_cases hx : l[i] = x
    · rw [if_pos (by rw [hx]), hx]; simp [inB]
    · have hne : ¬ l[i].data.toList = x.data.toList := fun e => hx (bytes_ext e)
      rw [if_neg (by rw [toList_eq, toList_eq]; exact hne), show wrap64 ((i : Int) + 1) = ((i + 1 : Nat) : Int) by unfold wrap64; omega, in_l0 l x hl d (i + 1) k (by omega) (by omega)]
      unfold inB
      rw [List.any_cons, decide_eq_false hne, Bool.false_or]
theorem in_is (l : List ByteArray) (x : ByteArray) (hl : l.length ≤ 2000) (k : Nat) (hk : 2001 ≤ k) : althingref04_In.f k l x = some (inB l x) := by
  have := in_l0 l x hl l.length 0 k (by omega) (by omega)
  simpa [althingref04_In.f] using this
end Go.Proofs.Ytklbmdakoeoplaa.Strs
end
section
namespace Go.Proofs.Ytklbmdakoeoplaa.Strs
open Go.RowKit Go.Proofs.YtklbmdakoeoplaaW.PrintWords Go.Proofs.YtklbmdakoeoplaaW.PrintLast Go.Proofs.YtklbmdakoeoplaaW.PrintMore Go.Proofs.Ytklbmdakoeoplaa.X
set_option linter.unusedSimpArgs false
set_option linter.unusedVariables false
theorem join_l1 (l : List ByteArray) (hl : l.length ≤ 80) (hz : ∀ x ∈ l, x.size ≤ 2000) (i : Nat) (hi : i < l.length) (K : Nat)
    (h0 : ∀ out k, out.Pairwise blt → (∀ x, x ∈ out ↔ x ∈ l.take (i + 1)) → out.length ≤ i + 1 → K ≤ k → ∃ r, althingref04_Join.l0 k out l ((i + 1 : Nat) : Int) = some r ∧ JoinedTo l r)
    (out : List ByteArray) (hs : out.Pairwise blt) (hm : ∀ x, x ∈ out ↔ x ∈ l.take i) (hn : out.length ≤ i) (hx : l[i] ∉ out) :
    ∀ d q k, q + d = out.length → (∀ y ∈ out.take q, blt y l[i]) → K + 2001 + d + 1 ≤ k → ∃ r, althingref04_Join.l1 k out l (i : Int) (q : Int) = some r ∧ JoinedTo l r := by
  have hmem : ∀ q y, y ∈ out.take q ++ [l[i]] ++ out.drop q ↔ y ∈ l.take (i + 1) := fun q y => by
    rw [ins_mem, hm, List.take_succ_eq_append_getElem hi, List.mem_append, List.mem_singleton]
  have hw : wrap64 ((i : Int) + 1) = ((i + 1 : Nat) : Int) := by unfold wrap64; omega
  intro d
  induction d with
  | zero =>
    intro q k hq hlow hk
    obtain ⟨k, rfl⟩ : ∃ k', k = k' + 1 := ⟨k - 1, by omega⟩
    obtain rfl : q = out.length := by omega
    have hd : out.drop out.length = [] := List.drop_eq_nil_of_le (Nat.le_refl _)
    obtain ⟨r, hr, hj⟩ := h0 (out.take out.length ++ [l[i]] ++ out.drop out.length) k (ins_sorted out l[i] out.length hs hlow (by rw [hd]; simp)) (hmem _) (by rw [ins_len]; omega) (by omega)
    refine ⟨r, ?_, hj⟩
    unfold althingref04_Join.l1
    rw [if_neg (by omega)]
    simp only [Option.bind_some, Int.toNat_natCast, List.nil_append, rd_el l i hi]
    rw [if_pos (by omega), if_pos (by omega), if_pos (by simp), if_pos (by omega), if_pos (by omega), if_pos (by simp; omega), if_pos (by simp; omega), hw]
    exact hr
  | succ d ih =>
    intro q k hq hlow hk
    obtain ⟨k, rfl⟩ : ∃ k', k = k' + 1 := ⟨k - 1, by omega⟩
    have hql : q < out.length := by omega
    unfold althingref04_Join.l1
    rw [if_pos (by omega), if_pos (by omega), if_pos (by omega), if_pos (by omega), rd_el l i hi, rd_el out q hql, before_is _ _ (hz _ (List.getElem_mem hi)) k (by omega)]
    simp only [Option.bind_some]
    by_cases hb : blt out[q] l[i]
    · rw [if_pos (decide_eq_true hb), show wrap64 ((q : Int) + 1) = ((q + 1 : Nat) : Int) by unfold wrap64; omega]
      refine ih (q + 1) k (by omega) ?_ (by omega)
      intro y hy
      rw [List.take_succ_eq_append_getElem hql, List.mem_append, List.mem_singleton] at hy
      rcases hy with hy | rfl
      · exact hlow y hy
      · exact hb
    · rw [if_neg (by rw [decide_eq_true_eq]; exact hb)]
      obtain ⟨r, hr, hj⟩ := h0 (out.take q ++ [l[i]] ++ out.drop q) k (ins_sorted out l[i] q hs hlow (head_below out l[i] q hs hql hx hb)) (hmem _) (by rw [ins_len]; omega) (by omega)
      refine ⟨r, ?_, hj⟩
      simp only [Int.toNat_natCast, List.nil_append]
      rw [if_pos (by omega), if_pos (by simp; omega), if_pos (by simp; omega), if_pos (by simp; omega), hw]
      exact hr
theorem join_l0 (l : List ByteArray) (hl : l.length ≤ 80) (hz : ∀ x ∈ l, x.size ≤ 2000) : ∀ d i, i + d = l.length → ∃ K, ∀ out k, out.Pairwise blt → (∀ x, x ∈ out ↔ x ∈ l.take i) → out.length ≤ i → K ≤ k → ∃ r, althingref04_Join.l0 k out l (i : Int) = some r ∧ JoinedTo l r
  | 0, i, h => ⟨1, fun out k hs hm hn hk => by
      obtain ⟨k, rfl⟩ : ∃ k', k = k' + 1 := ⟨k - 1, by omega⟩
      refine ⟨out, ?_, hs, fun x => by rw [hm, List.take_of_length_le (by omega)]⟩
      unfold althingref04_Join.l0
      rw [if_neg (by omega)]⟩
  | d + 1, i, h => by
    obtain ⟨K, hK⟩ := join_l0 l hl hz d (i + 1) (by omega)
    have hi : i < l.length := by omega
    refine ⟨K + 2001 + i + 3, fun out k hs hm hn hk => ?_⟩
    obtain ⟨k, rfl⟩ : ∃ k', k = k' + 1 := ⟨k - 1, by omega⟩
    unfold althingref04_Join.l0
    rw [if_pos (by omega), if_pos (by omega), rd_el l i hi, in_is out _ (by omega) k (by omega)]
    simp only [Option.bind_some]
    by_cases hx : l[i] ∈ out
    · rw [if_pos ((inB_iff _ _).2 hx), show wrap64 ((i : Int) + 1) = ((i + 1 : Nat) : Int) by unfold wrap64; omega]
      refine hK out k hs (fun x => ?_) (by omega) (by omega)
      rw [List.take_succ_eq_append_getElem hi, List.mem_append, List.mem_singleton, hm]
      constructor
      · exact .inl
      · rintro (h | rfl)
        · exact h
        · exact (hm _).1 hx
    · rw [if_neg (fun e => hx ((inB_iff _ _).1 e))]
      exact join_l1 l hl hz i hi K (fun out k a b c d => hK out k a b c d) out hs hm hn hx out.length 0 k (by omega) (by simp) (by omega)
theorem refJoin_is (a b : List ByteArray) (ha : few a) (hb : few b) : ∃ K, ∀ k, K ≤ k → ∃ r, althingref04_Join.f k a b = some r ∧ Joined a b r := by
  obtain ⟨K, hK⟩ := join_l0 (a ++ b) (by rw [List.length_append]; have := ha.1; have := hb.1; omega) (fun x hx => by rcases List.mem_append.1 hx with h | h; have := ha.2 x h; omega; have := hb.2 x h; omega) (a ++ b).length 0 (by omega)
  refine ⟨K, fun k hk => ?_⟩
  obtain ⟨r, hr, hj⟩ := hK [] k (by simp) (by simp) (by simp) hk
  refine ⟨r, ?_, hj.1, fun x => (hj.2 x).trans List.mem_append⟩
  unfold althingref04_Join.f
  simp only [Option.bind_some, List.nil_append, List.length_nil]
  have := ha.1
  have := hb.1
  rw [if_pos (by omega), if_pos (by omega)]
  exact hr
end Go.Proofs.Ytklbmdakoeoplaa.Strs
end
section
namespace Go.Proofs.Ytklbmdakoeoplaa.Strs
open Go.RowKit Go.Proofs.YtklbmdakoeoplaaW.PrintWords Go.Proofs.YtklbmdakoeoplaaW.PrintLast Go.Proofs.YtklbmdakoeoplaaW.PrintMore Go.Proofs.Ytklbmdakoeoplaa.X
set_option linter.unusedSimpArgs false
set_option linter.unusedVariables false
theorem rjoin_ev (a b : List ByteArray) (ha : few a) (hb : few b) : Ev (fun k => althingref04_Join.f k a b) (joinB a b) := by
  obtain ⟨K, hK⟩ := refJoin_is a b ha hb
  refine ⟨K, fun k hk => ?_⟩
  obtain ⟨r, hr, hj⟩ := hK k hk
  show althingref04_Join.f k a b = _
  rw [hr, hj.unique (joinB_joined a b)]
theorem few_nil : few [] := ⟨by simp, by simp⟩
section
variable (a b c d e s : Int) (r : List Rd) (w : List Wr) (m : Bool)
theorem keys_few (h : small r w) : few (keysB r w) := by
  refine ⟨?_, fun x hx => ?_⟩
  · have := joinB_len (rk r) (wk w)
    have := h.1
    have := h.2.1
    have e1 : (rk r).length = r.length := by unfold rk; rw [List.length_map]
    have e2 : (wk w).length = w.length := by unfold wk; rw [List.length_map]
    unfold keysB; omega
  · rcases joinB_mem hx with h1 | h1
    · exact (rk_few h).2 x h1
    · exact (wk_few h).2 x h1
theorem joinB_flat (l m : List ByteArray) : joinB (l ++ m) [] = joinB l m :=
  Joined.unique (a := l) (b := m) ⟨(joinB_joined (l ++ m) []).1, fun x => by rw [(joinB_joined (l ++ m) []).2 x, List.mem_append]; simp⟩ (joinB_joined l m)
theorem rkeys_l1 (h : small r w) : ∀ dd i, i + dd = w.length → Ev (fun k => althingref05_Keys.l1 k (rk r ++ wk (w.take i)) (i : Int) a b c d e s r w m) (keysB r w)
  | 0, i, hi => by
    refine Ev.step (f := fun k => (althingref04_Join.f k (rk r ++ wk (w.take i)) ([] : List ByteArray)).bind fun t => some t) (fun k => ?_) ?_
    · simp only [althingref05_Keys.l1]; rw [if_neg (by omega)]
    · rw [show i = w.length by omega, List.take_length]
      refine Ev.bind (rjoin_ev _ _ ⟨?_, fun x hx => ?_⟩ few_nil) (Ev.const (by rw [joinB_flat]; rfl))
      · rw [List.length_append]
        have := h.1
        have := h.2.1
        unfold rk wk; rw [List.length_map, List.length_map]; omega
      · rcases List.mem_append.1 hx with h1 | h1
        · exact (rk_few h).2 x h1
        · exact (wk_few h).2 x h1
  | dd + 1, i, hi => by
    have hil : i < w.length := by omega
    have hw := h.2.1
    have hr := h.1
    refine Ev.step (fun k => ?_) (rkeys_l1 h dd (i + 1) (by omega))
    simp only [althingref05_Keys.l1]
    rw [if_pos (by omega), if_pos (by omega), if_pos (by unfold rk wk; rw [List.length_append, List.length_map, List.length_map, List.length_take]; omega), rdW w i hil, w1 i (by omega), List.take_succ_eq_append_getElem hil]
    unfold wk
    rw [List.map_append, List.append_assoc]; rfl
theorem rkeys_l0 (h : small r w) : ∀ dd i, i + dd = r.length → Ev (fun k => althingref05_Keys.l0 k (rk (r.take i)) (i : Int) a b c d e s r w m) (keysB r w)
  | 0, i, hi => by
    have hq := rkeys_l1 a b c d e s r w m h w.length 0 (by omega)
    refine Ev.step (fun k => ?_) hq
    simp only [althingref05_Keys.l0]
    rw [if_neg (by omega), show i = r.length by omega, List.take_length, List.take_zero, show wk [] = [] from rfl, List.append_nil]; rfl
  | dd + 1, i, hi => by
    have hil : i < r.length := by omega
    have hr := h.1
    refine Ev.step (fun k => ?_) (rkeys_l0 h dd (i + 1) (by omega))
    simp only [althingref05_Keys.l0]
    rw [if_pos (by omega), if_pos (by omega), if_pos (by unfold rk; rw [List.length_map, List.length_take]; omega), rdR r i hil, w1 i (by omega), List.take_succ_eq_append_getElem hil]
    unfold rk
    rw [List.map_append]; rfl
theorem rkeys_is (h : small r w) : Ev (fun k => althingref05_Keys.f k a b c d e s r w m) (keysB r w) := rkeys_l0 a b c d e s r w m h r.length 0 (by omega)
end
theorem rmeet_l0 (l m : List ByteArray) (hl : l.length ≤ 2000) (hm : m.length ≤ 2000) : ∀ dd i, i + dd = l.length → Ev (fun k => althingref05_Interfere.l0 k l m (i : Int)) (meetB (l.drop i) m)
  | 0, i, hi => by
    refine Ev.step (f := fun _ => some false) (fun k => ?_) (Ev.const ?_)
    · simp only [althingref05_Interfere.l0]; rw [if_neg (by omega)]
    · rw [List.drop_eq_nil_of_le (by omega)]; rfl
  | dd + 1, i, hi => by
    have hil : i < l.length := by omega
    have e : meetB (l.drop i) m = (inB m l[i] || meetB (l.drop (i + 1)) m) := by rw [List.drop_eq_getElem_cons hil]; rfl
    refine Ev.step (f := fun k => (althingref04_In.f k m (rdOf ByteArray.empty l (i : Int))).bind fun t => if t = true then some true else althingref05_Interfere.l0 k l m ((i + 1 : Nat) : Int)) (fun k => ?_) ?_
    · simp only [althingref05_Interfere.l0]; rw [if_pos (by omega), if_pos (by omega), w1 i (by omega)]
    · rw [rd_at l i hil, e]
      have hin : Ev (fun k => althingref04_In.f k m l[i]) (inB m l[i]) := ⟨2001, fun k hk => in_is m l[i] hm k hk⟩
      cases hb : inB m l[i] with
      | true => exact Ev.bindT (hb ▸ hin) (Ev.const rfl)
      | false =>
        rw [Bool.false_or]
        exact Ev.bindF (hb ▸ hin) (rmeet_l0 l m hl hm dd (i + 1) (by omega))
section
variable (a b c d e s : Int) (r : List Rd) (w : List Wr) (m : Bool) (a' b' c' d' e' s' : Int) (r' : List Rd) (w' : List Wr) (m' : Bool)
theorem rinter_j0 (h : small r w) (h' : small r' w') (x : Bool) : Ev (fun k => althingref05_Interfere.j0 k x a b c d e s r w m a' b' c' d' e' s' r' w' m') (!x && ((b == b' && (c == c')) || meetB (keysB r w) (keysB r' w'))) := by
  cases x with
  | true =>
    refine Ev.step (f := fun _ => some false) (fun k => ?_) (Ev.const rfl)
    simp only [althingref05_Interfere.j0]; rw [if_pos trivial]
  | false =>
    cases hx : (b == b' && (c == c')) with
    | true =>
      refine Ev.step (f := fun _ => some true) (fun k => ?_) (Ev.const rfl)
      simp only [althingref05_Interfere.j0]; rw [if_neg (by simp), if_pos hx]
    | false =>
      have hq := rmeet_l0 (keysB r w) (keysB r' w') (by have := (keys_few r w h).1; omega) (by have := (keys_few r' w' h').1; omega) (keysB r w).length 0 (by omega)
      have hM : Ev (fun k => (althingref05_Keys.f k a b c d e s r w m).bind fun t329 => (althingref05_Keys.f k a' b' c' d' e' s' r' w' m').bind fun t332 => althingref05_Interfere.l0 k t329 t332 0) (meetB (keysB r w) (keysB r' w')) := Ev.bind (rkeys_is a b c d e s r w m h) (Ev.bind (rkeys_is a' b' c' d' e' s' r' w' m' h') (by simpa using hq))
      rw [Bool.not_false, Bool.true_and, Bool.false_or]
      refine Ev.step (fun k => ?_) hM
      simp only [althingref05_Interfere.j0]; rw [if_neg (by simp), if_neg (by simp [hx])]
theorem rinter_is (h : small r w) (h' : small r' w') : Ev (fun k => althingref05_Interfere.f k a b c d e s r w m a' b' c' d' e' s' r' w' m') (interB a b c r w a' b' c' r' w') := by
  unfold interB althingref05_Interfere.f
  by_cases ha : a = 0
  · simp only [ha, ↓reduceIte, decide_true, Bool.true_or]
    exact rinter_j0 0 b c d e s r w m a' b' c' d' e' s' r' w' m' h h' true
  · simp only [ha, ↓reduceIte, decide_false, Bool.false_or]
    exact rinter_j0 a b c d e s r w m a' b' c' d' e' s' r' w' m' h h' (a' == 0)
end
end Go.Proofs.Ytklbmdakoeoplaa.Strs
end
