/- What the claim SLO leans on: texts joined by bundle.py, a program of ours; the words cut down to what is used. -/
import Derived.Test.YtklbmdakoeoplaaBSLO4
section
namespace Go.Proofs.Ytklbmdakoeoplaa.X
open Go.RowKit Go.Proofs.YtklbmdakoeoplaaW.PrintWords Go.Proofs.YtklbmdakoeoplaaW.PrintLast Go.Proofs.YtklbmdakoeoplaaW.PrintMore
attribute [local go_sem] max2_int min2_int max_two min_two max_three min_three max_four min_four   -- for this text's walks alone
set_option linter.unusedVariables false
set_option linter.unusedSimpArgs false
/-! ### althinglaw11_IndexSlots: function 6 -/
mutual
def althinglaw11_IndexSlots.j0 : Nat → List (S44) → Int → Bool → Int → Int → Int → Int → Int → Int → Int → Int → Int → Int → Int → Int → Int → List (S61) → List (S46) → Bool → Int → Int → Int → Int → Int → Int → Int → Int → Bool → Option (Bool)
 | 0, _, _, _, _, _, _, _, _, _, _, _, _, _, _, _, _, _, _, _, _, _, _, _, _, _, _, _, _ => none
 | k + 1, x0, x2, x19, x516000, x516001, x516002, x516003, x516004, x516005, x516006, x516007, x516008, x516009, x516010, x516011, x516012, x516013, x516014, x516015, x516016, x516017, x516018, x516019, x516020, x516021, x516022, x516023, x516024 => if x19 = true then ((althinglaw11_awake.f k).bind fun t521 => (some t521)) else ((index_Slot.f k x0 x2).bind fun t522 => (althinglaw11_IndexSlots.l0 k x0 x2 t522 x0 (x0.length : Int) 0 x516000 x516001 x516002 x516003 x516004 x516005 x516006 x516007 x516008 x516009 x516010 x516011 x516012 x516013 x516014 x516015 x516016 x516017 x516018 x516019 x516020 x516021 x516022 x516023 x516024))
def althinglaw11_IndexSlots.l0 : Nat → List (S44) → Int → Int → List (S44) → Int → Int → Int → Int → Int → Int → Int → Int → Int → Int → Int → Int → Int → Int → Int → List (S61) → List (S46) → Bool → Int → Int → Int → Int → Int → Int → Int → Int → Bool → Option (Bool)
 | 0, _, _, _, _, _, _, _, _, _, _, _, _, _, _, _, _, _, _, _, _, _, _, _, _, _, _, _, _, _, _, _ => none
 | k + 1, x0, x2, x7, x24, x25, x26, x516000, x516001, x516002, x516003, x516004, x516005, x516006, x516007, x516008, x516009, x516010, x516011, x516012, x516013, x516014, x516015, x516016, x516017, x516018, x516019, x516020, x516021, x516022, x516023, x516024 => if x26 < x25 then (if 0 ≤ x26 then (if x26 < (x24.length : Int) then (if ((rd_T44 x24 x26).f0.f0) = x2 then (if ((rd_T44 x24 x26).f0.f1) ≥ x7 then (if ((rd_T44 x24 x26).f0.f1) ≤ 1048576 then (none) else (althinglaw11_IndexSlots.l0 k x0 x2 x7 x24 x25 (wrap64 (x26 + 1)) x516000 x516001 x516002 x516003 x516004 x516005 x516006 x516007 x516008 x516009 x516010 x516011 x516012 x516013 x516014 x516015 x516016 x516017 x516018 x516019 x516020 x516021 x516022 x516023 x516024)) else (althinglaw11_IndexSlots.l0 k x0 x2 x7 x24 x25 (wrap64 (x26 + 1)) x516000 x516001 x516002 x516003 x516004 x516005 x516006 x516007 x516008 x516009 x516010 x516011 x516012 x516013 x516014 x516015 x516016 x516017 x516018 x516019 x516020 x516021 x516022 x516023 x516024)) else (althinglaw11_IndexSlots.l0 k x0 x2 x7 x24 x25 (wrap64 (x26 + 1)) x516000 x516001 x516002 x516003 x516004 x516005 x516006 x516007 x516008 x516009 x516010 x516011 x516012 x516013 x516014 x516015 x516016 x516017 x516018 x516019 x516020 x516021 x516022 x516023 x516024)) else (none)) else (none)) else ((althinglaw11_own.f k x0).bind fun t525 => ((some (([(⟨(⟨x516000, x516001⟩ : S24), x516002, (⟨x516003, x516004⟩ : S40), (⟨x516005, x516006⟩ : S40), (⟨x516007, (⟨x516008, x516009⟩ : S26), (⟨x516010, x516011⟩ : S28), x516012, x516013, x516014, x516015⟩ : S32), x516016, (⟨x516017, x516018, x516019, x516020, x516021, x516022, x516023⟩ : S42), x516024⟩ : S44)] : List (S44)) : List (S44))).bind fun y528 => (if t525.length + y528.length < 606627104979 then ((index_Slot.f k (t525 ++ y528) x2).bind fun t534 => (if x7 ≥ 1 then (if t534 ≥ x7 then (if x516000 = x2 then ((althinglaw11_awake.f k).bind fun t535 => (some t535)) else (if t534 = x7 then ((althinglaw11_awake.f k).bind fun t536 => (some t536)) else (none))) else (none)) else (none))) else (none))))
end
def althinglaw11_IndexSlots.f (k : Nat) (l0 : List (S44)) (a1_0 : Int) (a1_1 : Int) (a1_2 : Int) (a1_3 : Int) (a1_4 : Int) (a1_5 : Int) (a1_6 : Int) (a1_7 : Int) (a1_8 : Int) (a1_9 : Int) (a1_10 : Int) (a1_11 : Int) (a1_12 : Int) (l1_13 : List (S61)) (l1_14 : List (S46)) (a1_15 : Bool) (a1_16 : Int) (a1_17 : Int) (a1_18 : Int) (a1_19 : Int) (a1_20 : Int) (a1_21 : Int) (a1_22 : Int) (a1_23 : Int) (a1_24 : Bool) (a2 : Int) : Option (Bool) := (althinglaw11_Few.f k l0).bind fun t516 => (if t516 = true then ((althinglaw11_Few.f k (([(⟨(⟨a1_0, a1_1⟩ : S24), a1_2, (⟨a1_3, a1_4⟩ : S40), (⟨a1_5, a1_6⟩ : S40), (⟨a1_7, (⟨a1_8, a1_9⟩ : S26), (⟨a1_10, a1_11⟩ : S28), a1_12, l1_13, l1_14, a1_15⟩ : S32), a1_16, (⟨a1_17, a1_18, a1_19, a1_20, a1_21, a1_22, a1_23⟩ : S42), a1_24⟩ : S44)] : List (S44)))).bind fun t520 => (althinglaw11_IndexSlots.j0 k l0 a2 (!t520) a1_0 a1_1 a1_2 a1_3 a1_4 a1_5 a1_6 a1_7 a1_8 a1_9 a1_10 a1_11 a1_12 l1_13 l1_14 a1_15 a1_16 a1_17 a1_18 a1_19 a1_20 a1_21 a1_22 a1_23 a1_24)) else (althinglaw11_IndexSlots.j0 k l0 a2 true a1_0 a1_1 a1_2 a1_3 a1_4 a1_5 a1_6 a1_7 a1_8 a1_9 a1_10 a1_11 a1_12 l1_13 l1_14 a1_15 a1_16 a1_17 a1_18 a1_19 a1_20 a1_21 a1_22 a1_23 a1_24))
def althinglaw11_IndexSlots.T10 : Bool × List (List Nat × List Nat) := (true, [([], []), ([0], [0]), ([], []), ([2], [2]), ([1, 3, 1], [1, 3]), ([], []), ([4, 5, 4], [4, 5]), ([6, 6, 0, 1, 2, 3, 4, 5, 6], [6])])
def althinglaw11_IndexSlots.B10 : List Nat := [0, 1, 0, 4, 15, 0, 63, 127]
theorem althinglaw11_IndexSlots.tab10 : rtab .any (opsOf Try.f6 10) = althinglaw11_IndexSlots.T10 := by kernel_rfl
theorem althinglaw11_IndexSlots.bits10 : waitsOk althinglaw11_IndexSlots.T10.2 althinglaw11_IndexSlots.B10 = true := by kernel_rfl
set_option maxHeartbeats 8000000 in
set_option maxRecDepth 100000 in
theorem althinglaw11_IndexSlots.calls (k : Nat) (A0 : Option Addr) (c0 : Nat) (l0 : List (S44)) (a1_0 : Int) (a1_1 : Int) (a1_2 : Int) (a1_3 : Int) (a1_4 : Int) (a1_5 : Int) (a1_6 : Int) (a1_7 : Int) (a1_8 : Int) (a1_9 : Int) (a1_10 : Int) (a1_11 : Int) (a1_12 : Int) (P1_13_ : Nat → Prop) (A1_13 : Option Addr) (c1_13 : Nat) (l1_13 : List (S61)) (P1_14_ : Nat → Prop) (A1_14 : Option Addr) (c1_14 : Nat) (l1_14 : List (S46)) (a1_15 : Bool) (a1_16 : Int) (a1_17 : Int) (a1_18 : Int) (a1_19 : Int) (a1_20 : Int) (a1_21 : Int) (a1_22 : Int) (a1_23 : Int) (a1_24 : Bool) (a2 : Int) (r : Bool) (w : World) (hr0 : Kd.C k44 w A0 l0.length l0) (hc0 : l0.length ≤ c0) (hs1_13 : Kd.V k61 61 w w.heap.size (fun k_ => P1_13_ k_) (.slice A1_13 l1_13.length c1_13) l1_13) (hs1_14 : Kd.V k46 46 w w.heap.size (fun k_ => P1_14_ k_) (.slice A1_14 l1_14.length c1_14) l1_14) (h : althinglaw11_IndexSlots.f k l0 a1_0 a1_1 a1_2 a1_3 a1_4 a1_5 a1_6 a1_7 a1_8 a1_9 a1_10 a1_11 a1_12 l1_13 l1_14 a1_15 a1_16 a1_17 a1_18 a1_19 a1_20 a1_21 a1_22 a1_23 a1_24 a2 = some r) :
 Calls Try.prog 6 #[.slice A0 l0.length c0, .agg #[.int .i64 a1_0, .int .i64 a1_1, .int .i64 a1_2, .int .i64 a1_3, .int .i64 a1_4, .int .i64 a1_5, .int .i64 a1_6, .int .i64 a1_7, .int .i64 a1_8, .int .i64 a1_9, .int .i64 a1_10, .int .i64 a1_11, .int .i64 a1_12, .slice A1_13 l1_13.length c1_13, .slice A1_14 l1_14.length c1_14, .bool a1_15, .int .i64 a1_16, .int .i64 a1_17, .int .i64 a1_18, .int .i64 a1_19, .int .i64 a1_20, .int .i64 a1_21, .int .i64 a1_22, .int .i64 a1_23, .bool a1_24], .int .i64 a2] w fun e w' => e = .returned (.bool r) ∧ Below w.heap.size w w' := by
 have hu44 := Try.underlying44
 have HR0 := Aside0.mk hr0
 have HC0 := Aside0.mk hc0
 clear hr0 hc0
 have HO1_13 := Aside0.mk (show Kd.V k61 61 w w.heap.size (fun k_ => ((P1_13_ k_ ∨ P1_14_ k_) ∨ w.heap.size ≤ k_)) (.slice A1_13 l1_13.length c1_13) l1_13 from Kd.V_mono hs1_13 (fun k_ hk => .inl (.inl hk)))
 have HO1_14 := Aside0.mk (show Kd.V k46 46 w w.heap.size (fun k_ => ((P1_13_ k_ ∨ P1_14_ k_) ∨ w.heap.size ≤ k_)) (.slice A1_14 l1_14.length c1_14) l1_14 from Kd.V_mono hs1_14 (fun k_ hk => .inl (.inr hk)))
 have HB := Aside0.mk (Below.refl w.heap.size w)
 have H : ((althinglaw11_Few.f k l0).bind fun t516 => (if t516 = true then ((althinglaw11_Few.f k (([(⟨(⟨a1_0, a1_1⟩ : S24), a1_2, (⟨a1_3, a1_4⟩ : S40), (⟨a1_5, a1_6⟩ : S40), (⟨a1_7, (⟨a1_8, a1_9⟩ : S26), (⟨a1_10, a1_11⟩ : S28), a1_12, l1_13, l1_14, a1_15⟩ : S32), a1_16, (⟨a1_17, a1_18, a1_19, a1_20, a1_21, a1_22, a1_23⟩ : S42), a1_24⟩ : S44)] : List (S44)))).bind fun t520 => (althinglaw11_IndexSlots.j0 k l0 a2 (!t520) a1_0 a1_1 a1_2 a1_3 a1_4 a1_5 a1_6 a1_7 a1_8 a1_9 a1_10 a1_11 a1_12 l1_13 l1_14 a1_15 a1_16 a1_17 a1_18 a1_19 a1_20 a1_21 a1_22 a1_23 a1_24)) else (althinglaw11_IndexSlots.j0 k l0 a2 true a1_0 a1_1 a1_2 a1_3 a1_4 a1_5 a1_6 a1_7 a1_8 a1_9 a1_10 a1_11 a1_12 l1_13 l1_14 a1_15 a1_16 a1_17 a1_18 a1_19 a1_20 a1_21 a1_22 a1_23 a1_24))) = some r := h
 clear h
 have HC4 := Aside0.mk H
 clear H
 go_enter Try.func6, Try.ntmps6
 go_upto_region 1 with (first | ((with_reducible refine gate_dst (N := 4) rfl ?_); (try (refine gate_guard (by rfl) ?_; dsimp only)); refine box_event ?hg (N := 4) ?hd (cs := #[.int .i64 a1_0, .int .i64 a1_1, .int .i64 a1_2, .int .i64 a1_3, .int .i64 a1_4, .int .i64 a1_5, .int .i64 a1_6, .int .i64 a1_7, .int .i64 a1_8, .int .i64 a1_9, .int .i64 a1_10, .int .i64 a1_11, .int .i64 a1_12, .slice A1_13 l1_13.length c1_13, .slice A1_14 l1_14.length c1_14, .bool a1_15, .int .i64 a1_16, .int .i64 a1_17, .int .i64 a1_18, .int .i64 a1_19, .int .i64 a1_20, .int .i64 a1_21, .int .i64 a1_22, .int .i64 a1_23, .bool a1_24]) (t := 44) ?hr ?_; (case hd => rfl); (case hg => rfl); (case hr => first | (go_simp; done) | (go_simp; rfl)); intro gb515 hg w5 hbox hb; have n0_ := Aside0.mk (Kd.V_below (Kd.V_elderB (kv_ HO1_13.out) gb515 (Nat.le_of_eq hg.symm)) hb); have n1_ := Aside0.mk (Kd.V_below (Kd.V_elderB (kv_ HO1_14.out) gb515 (Nat.le_of_eq hg.symm)) hb); have n2_ := Aside0.mk (below_step lb_ hb); have n3_ := Aside0.mk (hbox); have n4_ := Aside0.mk ((by rw [hg]; exact (below_size lb_) : w.heap.size ≤ gb515)); have n5_ := Aside0.mk ((by rw [hg]; exact (below_size lb_) : w.heap.size ≤ gb515)); clear HO1_13; clear HO1_14; clear HB; have HO1_13 := n0_; have HO1_14 := n1_; have HB := n2_; have BK515 := n3_; have GW515 := n4_; have GE515 := n5_; clear n0_ n1_ n2_ n3_ n4_ n5_; clear hb hbox hg))
 (try simp only [Act.put, List.setIfInBounds_toArray, List.set_cons_zero, List.set_cons_succ])
 go_cut [19] (fun v19 wc => ∃ (kq : Nat) (x19_3 : Bool), v19 = .bool x19_3 ∧ Aside0 (althinglaw11_IndexSlots.j0 kq l0 a2 x19_3 a1_0 a1_1 a1_2 a1_3 a1_4 a1_5 a1_6 a1_7 a1_8 a1_9 a1_10 a1_11 a1_12 l1_13 l1_14 a1_15 a1_16 a1_17 a1_18 a1_19 a1_20 a1_21 a1_22 a1_23 a1_24 = some r) ∧ Aside0 (kq ≤ k) ∧ Aside0 (Kd.V k61 61 wc w.heap.size (fun k_ => ((P1_13_ k_ ∨ P1_14_ k_) ∨ w.heap.size ≤ k_) ∧ k_ ≠ gb515) (.slice A1_13 l1_13.length c1_13) l1_13) ∧ Aside0 (Kd.V k46 46 wc w.heap.size (fun k_ => ((P1_13_ k_ ∨ P1_14_ k_) ∨ w.heap.size ≤ k_) ∧ k_ ≠ gb515) (.slice A1_14 l1_14.length c1_14) l1_14) ∧ Aside0 (wc.heap[gb515]? = some (.cells #[.int .i64 a1_0, .int .i64 a1_1, .int .i64 a1_2, .int .i64 a1_3, .int .i64 a1_4, .int .i64 a1_5, .int .i64 a1_6, .int .i64 a1_7, .int .i64 a1_8, .int .i64 a1_9, .int .i64 a1_10, .int .i64 a1_11, .int .i64 a1_12, (.slice A1_13 l1_13.length c1_13), (.slice A1_14 l1_14.length c1_14), .bool a1_15, .int .i64 a1_16, .int .i64 a1_17, .int .i64 a1_18, .int .i64 a1_19, .int .i64 a1_20, .int .i64 a1_21, .int .i64 a1_22, .int .i64 a1_23, .bool a1_24] 44 (0, 0))) ∧ Aside0 (Below w.heap.size w wc))
 case first =>
  have H := HC4.out
  clear HC4
  obtain ⟨t516, A6, H⟩ := bs_ H
  by_cases c7 : t516 = true
  · subst c7
    rw [if_pos rfl] at H
    obtain ⟨y517, hy517⟩ : ∃ y_ : List (S44), y_ = (([(⟨(⟨a1_0, a1_1⟩ : S24), a1_2, (⟨a1_3, a1_4⟩ : S40), (⟨a1_5, a1_6⟩ : S40), (⟨a1_7, (⟨a1_8, a1_9⟩ : S26), (⟨a1_10, a1_11⟩ : S28), a1_12, l1_13, l1_14, a1_15⟩ : S32), a1_16, (⟨a1_17, a1_18, a1_19, a1_20, a1_21, a1_22, a1_23⟩ : S42), a1_24⟩ : S44)] : List (S44))) := ⟨_, rfl⟩
    replace H : ((althinglaw11_Few.f k y517).bind fun t520 => (althinglaw11_IndexSlots.j0 k l0 a2 (!t520) a1_0 a1_1 a1_2 a1_3 a1_4 a1_5 a1_6 a1_7 a1_8 a1_9 a1_10 a1_11 a1_12 l1_13 l1_14 a1_15 a1_16 a1_17 a1_18 a1_19 a1_20 a1_21 a1_22 a1_23 a1_24)) = some r := by first | (rw [hy517]; with_reducible exact H) | (have H2_ := (Option.bind_some _ _).symm.trans H; rw [hy517]; with_reducible exact H2_) | (have H2_ := (Option.bind_some _ _).symm.trans H; with_reducible exact H2_) | with_reducible exact H | (rw [hy517]; exact H) | exact H
    have Ny517 := Aside0.mk hy517
    clear hy517
    obtain ⟨t520, A8, H⟩ := bs_ H
    have H' := Aside0.mk H
    clear H
    go_wp2_with (first | ((with_reducible refine gate_callee (f := 10) rfl ?_); refine goesL_ (some 12) rfl rfl Try.func10 (by kernel_rfl) rfl #[.slice A0 l0.length c0] rfl (by (try simp only [List.map_toArray, List.map_cons, List.map_nil]); first | done | rfl | (simp only [List.length_drop, List.length_take]; rfl)) ?_; (with_reducible refine (althinglaw11_Few.calls k (fun k_ => k_ < w.heap.size) _ _ l0 true _ ?side1 A6.out).mono ?_); (case side1 => exact Kd.V_mk HC0.out (Kd.F_below (Kd.C_F k44_heap HR0.out) (by repeat (first | (with_reducible first | exact HB.out | apply below_alloc | apply pw_below_drewN | apply below_drew1 | refine below_set ?_ GE515.out) | exact HB.out)))); rintro e w9 ⟨rfl, hb⟩; refine ⟨_, rfl, ?_⟩; have n0_ := Aside0.mk (Kd.V_below (kv_ HO1_13.out) hb); have n1_ := Aside0.mk (Kd.V_below (kv_ HO1_14.out) hb); have n2_ := Aside0.mk (blk_below (kb_ BK515.out) hb); have n3_ := Aside0.mk (below_step (by repeat (first | (with_reducible first | exact HB.out | apply below_alloc | apply pw_below_drewN | apply below_drew1 | refine below_set ?_ GE515.out) | exact HB.out)) hb); clear HO1_13; clear HO1_14; clear BK515; clear HB; have HO1_13 := n0_; have HO1_14 := n1_; have BK515 := n2_; have HB := n3_; clear n0_ n1_ n2_ n3_; (try clear hb); (try clear hb2); (try clear hk); (try clear hi)) | ((with_reducible refine gate_dst (N := 15) rfl ?_); (try (refine gate_guard (by rfl) ?_; dsimp only)); refine blk_load_event ?lg (N := 15) ?ld (t := 44) (x := ?lxxz10) ?lo (g := gb515) ?lx (cs := _) BK515.out ?lD ?lt ?_; (case lg => rfl); (case ld => rfl); (case lo => rfl); (case lx => first | rfl | (go_simp; done) | (go_simp; rfl)); (case lD => exact ⟨_, Try.underlying44, rfl⟩); (case lt => kernel_rfl)) | ((with_reducible refine gate_dst (N := 16) rfl ?_); (try (refine gate_guard (by rfl) ?_; dsimp only)); refine Kd.N_lit k44 _ 44 ?hg (N' := 16) ?hd (xs := ([(⟨(⟨a1_0, a1_1⟩ : S24), a1_2, (⟨a1_3, a1_4⟩ : S40), (⟨a1_5, a1_6⟩ : S40), (⟨a1_7, (⟨a1_8, a1_9⟩ : S26), (⟨a1_10, a1_11⟩ : S28), a1_12, l1_13, l1_14, a1_15⟩ : S32), a1_16, (⟨a1_17, a1_18, a1_19, a1_20, a1_21, a1_22, a1_23⟩ : S42), a1_24⟩ : S44)] : List (S44))) (inner := [.int .i64 a1_0, .int .i64 a1_1, .int .i64 a1_2, .int .i64 a1_3, .int .i64 a1_4, .int .i64 a1_5, .int .i64 a1_6, .int .i64 a1_7, .int .i64 a1_8, .int .i64 a1_9, .int .i64 a1_10, .int .i64 a1_11, .int .i64 a1_12, .slice A1_13 l1_13.length c1_13, .slice A1_14 l1_14.length c1_14, .bool a1_15, .int .i64 a1_16, .int .i64 a1_17, .int .i64 a1_18, .int .i64 a1_19, .int .i64 a1_20, .int .i64 a1_21, .int .i64 a1_22, .int .i64 a1_23, .bool a1_24]) (ok := (fun k_ => ((P1_13_ k_ ∨ P1_14_ k_) ∨ w.heap.size ≤ k_) ∧ k_ ≠ gb515)) (okp := (fun k_ => ((P1_13_ k_ ∨ P1_14_ k_) ∨ w.heap.size ≤ k_) ∧ k_ ≠ gb515)) ?hr ?hp (fun _ hk => hk) ((show ∀ k_, w9.heap.size ≤ k_ → (fun k_ => ((P1_13_ k_ ∨ P1_14_ k_) ∨ w.heap.size ≤ k_) ∧ k_ ≠ gb515) k_ from fun k_ hk => ⟨(.inr (Nat.le_trans (below_size (by repeat (first | (with_reducible first | exact HB.out | apply below_alloc | apply pw_below_drewN | apply below_drew1 | refine below_set ?_ GE515.out) | exact HB.out))) hk)), Kd.freshB (g := gb515) (o := .cells #[.int .i64 a1_0, .int .i64 a1_1, .int .i64 a1_2, .int .i64 a1_3, .int .i64 a1_4, .int .i64 a1_5, .int .i64 a1_6, .int .i64 a1_7, .int .i64 a1_8, .int .i64 a1_9, .int .i64 a1_10, .int .i64 a1_11, .int .i64 a1_12, .slice A1_13 l1_13.length c1_13, .slice A1_14 l1_14.length c1_14, .bool a1_15, .int .i64 a1_16, .int .i64 a1_17, .int .i64 a1_18, .int .i64 a1_19, .int .i64 a1_20, .int .i64 a1_21, .int .i64 a1_22, .int .i64 a1_23, .bool a1_24] 44 (0, 0)) (kb_ BK515.out) k_ hk⟩) _ (Nat.le_refl _)) (Below.refl _ _) (Nat.le_refl _) (by simp) ?_; (case hd => rfl); (case hg => rfl); (case hr => first | (go_simp; done) | (go_simp; rfl)); (case hp => exact (Reps.front (show Kd.FK k44 _ _ (⟨(⟨a1_0, a1_1⟩ : S24), a1_2, (⟨a1_3, a1_4⟩ : S40), (⟨a1_5, a1_6⟩ : S40), (⟨a1_7, (⟨a1_8, a1_9⟩ : S26), (⟨a1_10, a1_11⟩ : S28), a1_12, l1_13, l1_14, a1_15⟩ : S32), a1_16, (⟨a1_17, a1_18, a1_19, a1_20, a1_21, a1_22, a1_23⟩ : S42), a1_24⟩ : S44) [.int .i64 a1_0, .int .i64 a1_1, .int .i64 a1_2, .int .i64 a1_3, .int .i64 a1_4, .int .i64 a1_5, .int .i64 a1_6, .int .i64 a1_7, .int .i64 a1_8, .int .i64 a1_9, .int .i64 a1_10, .int .i64 a1_11, .int .i64 a1_12, .slice A1_13 l1_13.length c1_13, .slice A1_14 l1_14.length c1_14, .bool a1_15, .int .i64 a1_16, .int .i64 a1_17, .int .i64 a1_18, .int .i64 a1_19, .int .i64 a1_20, .int .i64 a1_21, .int .i64 a1_22, .int .i64 a1_23, .bool a1_24] from (k44_mkF _ _ (⟨(⟨a1_0, a1_1⟩ : S24), a1_2, (⟨a1_3, a1_4⟩ : S40), (⟨a1_5, a1_6⟩ : S40), (⟨a1_7, (⟨a1_8, a1_9⟩ : S26), (⟨a1_10, a1_11⟩ : S28), a1_12, l1_13, l1_14, a1_15⟩ : S32), a1_16, (⟨a1_17, a1_18, a1_19, a1_20, a1_21, a1_22, a1_23⟩ : S42), a1_24⟩ : S44) (Kd.V_reads' (Kd.V_mono (ok' := (fun k_ => ((P1_13_ k_ ∨ P1_14_ k_) ∨ w.heap.size ≤ k_) ∧ k_ ≠ gb515)) (HO1_13.out) (fun k_ hk => ⟨hk.1, hk.2⟩))).2.1 (Kd.V_F (Kd.V_mono (ok' := (fun k_ => ((P1_13_ k_ ∨ P1_14_ k_) ∨ w.heap.size ≤ k_) ∧ k_ ≠ gb515)) (HO1_13.out) (fun k_ hk => ⟨hk.1, hk.2⟩))) (Kd.V_reads' (Kd.V_mono (ok' := (fun k_ => ((P1_13_ k_ ∨ P1_14_ k_) ∨ w.heap.size ≤ k_) ∧ k_ ≠ gb515)) (HO1_14.out) (fun k_ hk => ⟨hk.1, hk.2⟩))).2.1 (Kd.V_F (Kd.V_mono (ok' := (fun k_ => ((P1_13_ k_ ∨ P1_14_ k_) ∨ w.heap.size ≤ k_) ∧ k_ ≠ gb515)) (HO1_14.out) (fun k_ hk => ⟨hk.1, hk.2⟩))))) rfl (Reps.none _ _) rfl)); intro v518 w11 ho12 hb hg_ hnew_; clear hg_ hnew_; (first | rw [← Ny517.out] at ho12 | (simp only [Int.reduceToNat] at ho12; rw [← Ny517.out] at ho12)); have n0_ := Aside0.mk (Kd.V_elder' (kv_ HO1_13.out) (Kd.N_base ho12) hb); have n1_ := Aside0.mk (Kd.V_elder' (kv_ HO1_14.out) (Kd.N_base ho12) hb); have n2_ := Aside0.mk (Kd.N_lower ho12 (below_size (by repeat (first | (with_reducible first | exact HB.out | apply below_alloc | apply pw_below_drewN | apply below_drew1 | refine below_set ?_ GE515.out) | exact HB.out)))); have n3_ := Aside0.mk (blk_below (kb_ BK515.out) hb); have n4_ := Aside0.mk (below_step (by repeat (first | (with_reducible first | exact HB.out | apply below_alloc | apply pw_below_drewN | apply below_drew1 | refine below_set ?_ GE515.out) | exact HB.out)) hb); clear HO1_13; clear HO1_14; clear BK515; clear HB; have HO1_13 := n0_; have HO1_14 := n1_; have HO519 := n2_; have BK515 := n3_; have HB := n4_; clear n0_ n1_ n2_ n3_ n4_; clear hb ho12; obtain ⟨Ao13, co13, eo13⟩ := Kd.N_slice HO519.out; subst eo13) | (go_at_call 10; (with_reducible refine (althinglaw11_Few.calls k (fun k_ => (((P1_13_ k_ ∨ P1_14_ k_) ∨ w.heap.size ≤ k_) ∧ k_ ≠ gb515)) _ _ y517 t520 _ ?side1 A8.out).mono ?_); (case side1 => exact Kd.N_V (HO519.out)); rintro e w14 ⟨rfl, hb⟩; have n0_ := Aside0.mk (Kd.V_below (kv_ HO1_13.out) hb); have n1_ := Aside0.mk (Kd.V_below (kv_ HO1_14.out) hb); have n2_ := Aside0.mk (Kd.N_below (kn_ HO519.out) hb); have n3_ := Aside0.mk (blk_below (kb_ BK515.out) hb); have n4_ := Aside0.mk (below_step (by repeat (first | (with_reducible first | exact HB.out | apply below_alloc | apply pw_below_drewN | apply below_drew1 | refine below_set ?_ GE515.out) | exact HB.out)) hb); clear HO1_13; clear HO1_14; clear HO519; clear BK515; clear HB; have HO1_13 := n0_; have HO1_14 := n1_; have HO519 := n2_; have BK515 := n3_; have HB := n4_; clear n0_ n1_ n2_ n3_ n4_; (try clear hb); (try clear hb2); (try clear hk); (try clear hi)))
    go_meet
    case rel => exact ⟨_, (!t520), (by first | rfl | (simp; done) | (simp [*]; done)), H', ⟨by first | omega | exact Nat.le_refl _⟩, ⟨by (with_reducible repeat (first | apply Kd.V_alloc | apply Kd.V_drewN | apply Kd.V_drew)); exact Kd.V_mono HO1_13.out (fun _ hk => ⟨hk.1.1, hk.1.2⟩)⟩, ⟨by (with_reducible repeat (first | apply Kd.V_alloc | apply Kd.V_drewN | apply Kd.V_drew)); exact Kd.V_mono HO1_14.out (fun _ hk => ⟨hk.1.1, hk.1.2⟩)⟩, ⟨by (with_reducible repeat (first | refine blk_drewN ?_ _ | refine blk_drew ?_ | refine blk_alloc ?_ _)); exact BK515.out⟩, ⟨by repeat (first | (with_reducible first | exact HB.out | apply below_alloc | apply pw_below_drewN | apply below_drew1 | refine below_set ?_ GE515.out) | exact HB.out)⟩⟩
  · replace c7 := Bool.eq_false_iff.mpr c7
    subst c7
    rw [if_neg (show ¬ (false = true) by decide)] at H
    have H' := Aside0.mk H
    clear H
    go_wp2_with (first | ((with_reducible refine gate_callee (f := 10) rfl ?_); refine goesL_ (some 12) rfl rfl Try.func10 (by kernel_rfl) rfl #[.slice A0 l0.length c0] rfl (by (try simp only [List.map_toArray, List.map_cons, List.map_nil]); first | done | rfl | (simp only [List.length_drop, List.length_take]; rfl)) ?_; (with_reducible refine (althinglaw11_Few.calls k (fun k_ => k_ < w.heap.size) _ _ l0 false _ ?side1 A6.out).mono ?_); (case side1 => exact Kd.V_mk HC0.out (Kd.F_below (Kd.C_F k44_heap HR0.out) (by repeat (first | (with_reducible first | exact HB.out | apply below_alloc | apply pw_below_drewN | apply below_drew1 | refine below_set ?_ GE515.out) | exact HB.out)))); rintro e w15 ⟨rfl, hb⟩; refine ⟨_, rfl, ?_⟩; have n0_ := Aside0.mk (Kd.V_below (kv_ HO1_13.out) hb); have n1_ := Aside0.mk (Kd.V_below (kv_ HO1_14.out) hb); have n2_ := Aside0.mk (blk_below (kb_ BK515.out) hb); have n3_ := Aside0.mk (below_step (by repeat (first | (with_reducible first | exact HB.out | apply below_alloc | apply pw_below_drewN | apply below_drew1 | refine below_set ?_ GE515.out) | exact HB.out)) hb); clear HO1_13; clear HO1_14; clear BK515; clear HB; have HO1_13 := n0_; have HO1_14 := n1_; have BK515 := n2_; have HB := n3_; clear n0_ n1_ n2_ n3_; (try clear hb); (try clear hb2); (try clear hk); (try clear hi)))
    go_meet
    case rel => exact ⟨_, (true), (by first | rfl | (simp; done) | (simp [*]; done)), H', ⟨by first | omega | exact Nat.le_refl _⟩, ⟨by (with_reducible repeat (first | apply Kd.V_alloc | apply Kd.V_drewN | apply Kd.V_drew)); exact HO1_13.out⟩, ⟨by (with_reducible repeat (first | apply Kd.V_alloc | apply Kd.V_drewN | apply Kd.V_drew)); exact HO1_14.out⟩, ⟨by (with_reducible repeat (first | refine blk_drewN ?_ _ | refine blk_drew ?_ | refine blk_alloc ?_ _)); exact BK515.out⟩, ⟨by repeat (first | (with_reducible first | exact HB.out | apply below_alloc | apply pw_below_drewN | apply below_drew1 | refine below_set ?_ GE515.out) | exact HB.out)⟩⟩
 case rest =>
  clear HC4
  try clear c1
  try clear p2
  try clear c6
  try clear c7
  try clear c10
  obtain ⟨kq, x19_3, rfl, HA, HJ3, HO_516013, HO_516014, BK515, HB⟩ := hcut
  cases kq with
  | zero => exact absurd HA.out (by simp [althinglaw11_IndexSlots.j0])
  | succ kj3 =>
   have H := HA.out
   clear HA
   simp only [althinglaw11_IndexSlots.j0] at H
   by_cases c16 : x19_3 = true
   · subst c16
     rw [if_pos rfl] at H
     obtain ⟨t521, A17, H⟩ := bs_ H
     obtain rfl := Option.some.inj H
     go_wp2_with (first | ((with_reducible refine gate_callee (f := 12) rfl ?_); refine goesL_ (some 20) rfl rfl Try.func12 (by kernel_rfl) rfl #[] rfl (by (try simp only [List.map_toArray, List.map_cons, List.map_nil]); first | done | rfl | (simp only [List.length_drop, List.length_take]; rfl)) ?_; (with_reducible refine (althinglaw11_awake.calls kj3  t521 _ A17.out).mono ?_); rintro e w18 ⟨rfl, hb⟩; refine ⟨_, rfl, ?_⟩; have n0_ := Aside0.mk (Kd.V_below (kv_ HO_516013.out) hb); have n1_ := Aside0.mk (Kd.V_below (kv_ HO_516014.out) hb); have n2_ := Aside0.mk (blk_below (kb_ BK515.out) hb); have n3_ := Aside0.mk (below_step (by repeat (first | (with_reducible first | exact HB.out | apply below_alloc | apply pw_below_drewN | apply below_drew1 | refine below_set ?_ GE515.out) | exact HB.out)) hb); clear HO_516013; clear HO_516014; clear BK515; clear HB; have HO_516013 := n0_; have HO_516014 := n1_; have BK515 := n2_; have HB := n3_; clear n0_ n1_ n2_ n3_; (try clear hb); (try clear hb2); (try clear hk); (try clear hi)))
     go_ret
     exact ⟨by first | rfl | (simp [errW_none, errW_some] <;> rfl) | (simp [*, errW_none, errW_some] <;> rfl), by repeat (first | (with_reducible first | exact HB.out | apply below_alloc | apply pw_below_drewN | apply below_drew1 | refine below_set ?_ GE515.out) | exact HB.out)⟩
   · replace c16 := Bool.eq_false_iff.mpr c16
     subst c16
     rw [if_neg (show ¬ (false = true) by decide)] at H
     obtain ⟨t522, A19, H⟩ := bs_ H
     have H' := Aside0.mk H
     clear H
     go_wp2_with (first | ((with_reducible refine gate_callee (f := 19) rfl ?_); refine goesL_ (some 23) rfl rfl Try.func19 (by kernel_rfl) rfl #[.slice A0 l0.length c0, .int .i64 a2] rfl (by (try simp only [List.map_toArray, List.map_cons, List.map_nil]); first | done | rfl | (simp only [List.length_drop, List.length_take]; rfl)) ?_; (with_reducible refine (index_Slot.calls kj3 _ _ l0 a2 t522 _ ?side1 ?side2 A19.out).mono ?_); (case side1 => exact kc_ (Kd.C_below HR0.out HB.out)); (case side2 => exact HC0.out); rintro e w20 ⟨rfl, hb⟩; refine ⟨_, rfl, ?_⟩; have n0_ := Aside0.mk (Kd.V_below (kv_ HO_516013.out) hb); have n1_ := Aside0.mk (Kd.V_below (kv_ HO_516014.out) hb); have n2_ := Aside0.mk (blk_below (kb_ BK515.out) hb); have n3_ := Aside0.mk (below_step (by repeat (first | (with_reducible first | exact HB.out | apply below_alloc | apply pw_below_drewN | apply below_drew1 | refine below_set ?_ GE515.out) | exact HB.out)) hb); clear HO_516013; clear HO_516014; clear BK515; clear HB; have HO_516013 := n0_; have HO_516014 := n1_; have BK515 := n2_; have HB := n3_; clear n0_ n1_ n2_ n3_; (try clear hb); (try clear hb2); (try clear hk); (try clear hi)))
     go_loopg [26] kj3 (fun kq v26 w' => ∃ (x26_2 : Int), v26 = .int .i64 x26_2 ∧ Aside0 (althinglaw11_IndexSlots.l0 kq l0 a2 t522 l0 (l0.length : Int) x26_2 a1_0 a1_1 a1_2 a1_3 a1_4 a1_5 a1_6 a1_7 a1_8 a1_9 a1_10 a1_11 a1_12 l1_13 l1_14 a1_15 a1_16 a1_17 a1_18 a1_19 a1_20 a1_21 a1_22 a1_23 a1_24 = some r) ∧ Aside0 (kq ≤ kj3) ∧ Aside0 (Kd.V k61 61 w' w.heap.size (fun k_ => ((P1_13_ k_ ∨ P1_14_ k_) ∨ w.heap.size ≤ k_) ∧ k_ ≠ gb515) (.slice A1_13 l1_13.length c1_13) l1_13) ∧ Aside0 (Kd.V k46 46 w' w.heap.size (fun k_ => ((P1_13_ k_ ∨ P1_14_ k_) ∨ w.heap.size ≤ k_) ∧ k_ ≠ gb515) (.slice A1_14 l1_14.length c1_14) l1_14) ∧ Aside0 (w'.heap[gb515]? = some (.cells #[.int .i64 a1_0, .int .i64 a1_1, .int .i64 a1_2, .int .i64 a1_3, .int .i64 a1_4, .int .i64 a1_5, .int .i64 a1_6, .int .i64 a1_7, .int .i64 a1_8, .int .i64 a1_9, .int .i64 a1_10, .int .i64 a1_11, .int .i64 a1_12, (.slice A1_13 l1_13.length c1_13), (.slice A1_14 l1_14.length c1_14), .bool a1_15, .int .i64 a1_16, .int .i64 a1_17, .int .i64 a1_18, .int .i64 a1_19, .int .i64 a1_20, .int .i64 a1_21, .int .i64 a1_22, .int .i64 a1_23, .bool a1_24] 44 (0, 0))) ∧ Aside0 (Below w.heap.size w w'))
     case atStart => exact ⟨(0), (by first | rfl | (simp; done) | (simp [*]; done)), H', ⟨Nat.le_refl _⟩, ⟨by (with_reducible repeat (first | apply Kd.V_alloc | apply Kd.V_drewN | apply Kd.V_drew)); exact HO_516013.out⟩, ⟨by (with_reducible repeat (first | apply Kd.V_alloc | apply Kd.V_drewN | apply Kd.V_drew)); exact HO_516014.out⟩, ⟨by (with_reducible repeat (first | refine blk_drewN ?_ _ | refine blk_drew ?_ | refine blk_alloc ?_ _)); exact BK515.out⟩, ⟨by repeat (first | (with_reducible first | exact HB.out | apply below_alloc | apply pw_below_drewN | apply below_drew1 | refine below_set ?_ GE515.out) | exact HB.out)⟩⟩
     case round =>
      clear H'
      try clear c1
      try clear p2
      try clear c6
      try clear c7
      try clear c10
      try clear c12
      try clear c16
      try clear c19
      try clear p2
      (try clear BK515)
      obtain ⟨x26_2, rfl, HA, HK2, HO_516013, HO_516014, BK515, HB⟩ := hrel
      cases gk with
      | zero => exact absurd HA.out (by simp [althinglaw11_IndexSlots.l0])
      | succ k2 =>
       have H := HA.out
       clear HA
       simp only [althinglaw11_IndexSlots.l0] at H
       by_cases c21 : x26_2 < (l0.length : Int)
       · rw [if_pos c21] at H
         have c21b0 : decide (x26_2 < (l0.length : Int)) = true := decide_eq_true c21
         clear c21
         by_cases c22 : 0 ≤ x26_2
         · rw [if_pos c22] at H
           have c22b0 : decide (0 ≤ x26_2) = true := decide_eq_true c22
           clear c22
           by_cases c23 : x26_2 < (l0.length : Int)
           · rw [if_pos c23] at H
             have c23b0 : decide (x26_2 < (l0.length : Int)) = true := decide_eq_true c23
             clear c23
             by_cases c24 : ((rd_T44 l0 x26_2).f0.f0) = a2
             · rw [if_pos c24] at H
               have c24b0 : (((rd_T44 l0 x26_2).f0.f0) == a2) = true := beq_iff_eq.mpr c24
               have c24b1 : (((rd_T44 l0 x26_2).f0.f0) != a2) = false := bne_eq_false_iff_eq.mpr c24
               clear c24
               by_cases c25 : ((rd_T44 l0 x26_2).f0.f1) ≥ t522
               · rw [if_pos c25] at H
                 have c25b0 : decide (t522 ≤ ((rd_T44 l0 x26_2).f0.f1)) = true := decide_eq_true c25
                 clear c25
                 by_cases c26 : ((rd_T44 l0 x26_2).f0.f1) ≤ 1048576
                 · rw [if_pos c26] at H
                   exact absurd H (by simp)
                 · rw [if_neg c26] at H
                   have c26b0 : decide (((rd_T44 l0 x26_2).f0.f1) ≤ 1048576) = false := decide_eq_false c26
                   clear c26
                   have H' := Aside0.mk H
                   clear H
                   have p523 : 0 ≤ (x26_2 : Int) := of_decide_eq_true (by first | (with_reducible assumption) | assumption)
                   have q523 : x26_2 < (l0.length : Int) := of_decide_eq_true (by first | (with_reducible assumption) | assumption)
                   obtain ⟨ad523, A523_13, c523_13, A523_14, c523_14, e523, hx523_0, hx523_1, hx523_2, hx523_3, hx523_4, hx523_5, hx523_6, hx523_7, hx523_8, hx523_9, hx523_10, hx523_11, hx523_12, hx523_13, hx523_14, hx523_15, hx523_16, hx523_17, hx523_18, hx523_19, hx523_20, hx523_21, hx523_22, hx523_23, hx523_24, hl523_13, hi523_13, hl523_14, hi523_14⟩ := at_T44 HR0.out x26_2 p523 q523
                   cases e523
                   replace hx523_0 := (HB.out.cell (World.block_lt_of_cell? w _ hx523_0)).trans hx523_0
                   replace hx523_1 := (HB.out.cell (World.block_lt_of_cell? w _ hx523_1)).trans hx523_1
                   replace hx523_2 := (HB.out.cell (World.block_lt_of_cell? w _ hx523_2)).trans hx523_2
                   replace hx523_3 := (HB.out.cell (World.block_lt_of_cell? w _ hx523_3)).trans hx523_3
                   replace hx523_4 := (HB.out.cell (World.block_lt_of_cell? w _ hx523_4)).trans hx523_4
                   replace hx523_5 := (HB.out.cell (World.block_lt_of_cell? w _ hx523_5)).trans hx523_5
                   replace hx523_6 := (HB.out.cell (World.block_lt_of_cell? w _ hx523_6)).trans hx523_6
                   replace hx523_7 := (HB.out.cell (World.block_lt_of_cell? w _ hx523_7)).trans hx523_7
                   replace hx523_8 := (HB.out.cell (World.block_lt_of_cell? w _ hx523_8)).trans hx523_8
                   replace hx523_9 := (HB.out.cell (World.block_lt_of_cell? w _ hx523_9)).trans hx523_9
                   replace hx523_10 := (HB.out.cell (World.block_lt_of_cell? w _ hx523_10)).trans hx523_10
                   replace hx523_11 := (HB.out.cell (World.block_lt_of_cell? w _ hx523_11)).trans hx523_11
                   replace hx523_12 := (HB.out.cell (World.block_lt_of_cell? w _ hx523_12)).trans hx523_12
                   replace hx523_13 := (HB.out.cell (World.block_lt_of_cell? w _ hx523_13)).trans hx523_13
                   replace hx523_14 := (HB.out.cell (World.block_lt_of_cell? w _ hx523_14)).trans hx523_14
                   replace hx523_15 := (HB.out.cell (World.block_lt_of_cell? w _ hx523_15)).trans hx523_15
                   replace hx523_16 := (HB.out.cell (World.block_lt_of_cell? w _ hx523_16)).trans hx523_16
                   replace hx523_17 := (HB.out.cell (World.block_lt_of_cell? w _ hx523_17)).trans hx523_17
                   replace hx523_18 := (HB.out.cell (World.block_lt_of_cell? w _ hx523_18)).trans hx523_18
                   replace hx523_19 := (HB.out.cell (World.block_lt_of_cell? w _ hx523_19)).trans hx523_19
                   replace hx523_20 := (HB.out.cell (World.block_lt_of_cell? w _ hx523_20)).trans hx523_20
                   replace hx523_21 := (HB.out.cell (World.block_lt_of_cell? w _ hx523_21)).trans hx523_21
                   replace hx523_22 := (HB.out.cell (World.block_lt_of_cell? w _ hx523_22)).trans hx523_22
                   replace hx523_23 := (HB.out.cell (World.block_lt_of_cell? w _ hx523_23)).trans hx523_23
                   replace hx523_24 := (HB.out.cell (World.block_lt_of_cell? w _ hx523_24)).trans hx523_24
                   have HR523_13 := Aside0.mk hi523_13
                   have HC523_13 := Aside0.mk hl523_13
                   clear hi523_13 hl523_13
                   have HR523_14 := Aside0.mk hi523_14
                   have HC523_14 := Aside0.mk hl523_14
                   clear hi523_14 hl523_14
                   replace p523 := eq_true p523
                   replace q523 := eq_true q523
                   go_wp2_with (first | ((with_reducible refine gate_dst (N := 29) rfl ?_); refine cells_load_event ?lg (N := 29) ?ld (t := 44) (x := ?lxxz27) ?lo (p := ?lppz27) ?lx (v := .int .i64 ((rd_T44 l0 x26_2).f0.f0)) (cs := [.int .i64 ((rd_T44 l0 x26_2).f0.f1), .int .i64 ((rd_T44 l0 x26_2).f1), .int .i64 ((rd_T44 l0 x26_2).f2.f0), .int .i64 ((rd_T44 l0 x26_2).f2.f1), .int .i64 ((rd_T44 l0 x26_2).f3.f0), .int .i64 ((rd_T44 l0 x26_2).f3.f1), .int .i64 ((rd_T44 l0 x26_2).f4.f0), .int .i64 ((rd_T44 l0 x26_2).f4.f1.f0), .int .i64 ((rd_T44 l0 x26_2).f4.f1.f1), .int .i64 ((rd_T44 l0 x26_2).f4.f2.f0), .int .i64 ((rd_T44 l0 x26_2).f4.f2.f1), .int .i64 ((rd_T44 l0 x26_2).f4.f3), .slice A523_13 ((rd_T44 l0 x26_2).f4.f4).length c523_13, .slice A523_14 ((rd_T44 l0 x26_2).f4.f5).length c523_14, .bool ((rd_T44 l0 x26_2).f4.f6), .int .i64 ((rd_T44 l0 x26_2).f5), .int .i64 ((rd_T44 l0 x26_2).f6.f0), .int .i64 ((rd_T44 l0 x26_2).f6.f1), .int .i64 ((rd_T44 l0 x26_2).f6.f2), .int .i64 ((rd_T44 l0 x26_2).f6.f3), .int .i64 ((rd_T44 l0 x26_2).f6.f4), .int .i64 ((rd_T44 l0 x26_2).f6.f5), .int .i64 ((rd_T44 l0 x26_2).f6.f6), .bool ((rd_T44 l0 x26_2).f7)]) ?lD ?lt ?l0 ?lc ?_; (case lg => rfl); (case ld => rfl); (case lo => rfl); (case lx => first | rfl | (go_simp; done) | (go_simp; rfl)); (case lD => exact ⟨_, Try.underlying44, rfl⟩); (case lt => kernel_rfl); (case l0 => exact hx523_0); (case lc => exact ⟨hx523_1, hx523_2, hx523_3, hx523_4, hx523_5, hx523_6, hx523_7, hx523_8, hx523_9, hx523_10, hx523_11, hx523_12, hx523_13, hx523_14, hx523_15, hx523_16, hx523_17, hx523_18, hx523_19, hx523_20, hx523_21, hx523_22, hx523_23, hx523_24, trivial⟩)) | ((with_reducible refine gate_dst (N := 9) rfl ?_); (try (refine gate_guard (by rfl) ?_; dsimp only)); refine alloc_store_event ?hg1 (N := 9) ?hd1 ?hg2 ?hd2 ?ho2 (cs0 := #[.int .i64 0, .int .i64 0, .int .i64 0, .int .i64 0, .int .i64 0, .int .i64 0, .int .i64 0, .int .i64 0, .int .i64 0, .int .i64 0, .int .i64 0, .int .i64 0, .int .i64 0, .slice none 0 0, .slice none 0 0, .bool false, .int .i64 0, .int .i64 0, .int .i64 0, .int .i64 0, .int .i64 0, .int .i64 0, .int .i64 0, .int .i64 0, .bool false]) (cs := #[.int .i64 ((rd_T44 l0 x26_2).f0.f0), .int .i64 ((rd_T44 l0 x26_2).f0.f1), .int .i64 ((rd_T44 l0 x26_2).f1), .int .i64 ((rd_T44 l0 x26_2).f2.f0), .int .i64 ((rd_T44 l0 x26_2).f2.f1), .int .i64 ((rd_T44 l0 x26_2).f3.f0), .int .i64 ((rd_T44 l0 x26_2).f3.f1), .int .i64 ((rd_T44 l0 x26_2).f4.f0), .int .i64 ((rd_T44 l0 x26_2).f4.f1.f0), .int .i64 ((rd_T44 l0 x26_2).f4.f1.f1), .int .i64 ((rd_T44 l0 x26_2).f4.f2.f0), .int .i64 ((rd_T44 l0 x26_2).f4.f2.f1), .int .i64 ((rd_T44 l0 x26_2).f4.f3), .slice A523_13 ((rd_T44 l0 x26_2).f4.f4).length c523_13, .slice A523_14 ((rd_T44 l0 x26_2).f4.f5).length c523_14, .bool ((rd_T44 l0 x26_2).f4.f6), .int .i64 ((rd_T44 l0 x26_2).f5), .int .i64 ((rd_T44 l0 x26_2).f6.f0), .int .i64 ((rd_T44 l0 x26_2).f6.f1), .int .i64 ((rd_T44 l0 x26_2).f6.f2), .int .i64 ((rd_T44 l0 x26_2).f6.f3), .int .i64 ((rd_T44 l0 x26_2).f6.f4), .int .i64 ((rd_T44 l0 x26_2).f6.f5), .int .i64 ((rd_T44 l0 x26_2).f6.f6), .bool ((rd_T44 l0 x26_2).f7)]) (t := 44) (x := ?xxw28) ?hr ?hp ?hx ?hs ?h1 ?ht ?_; (case hg1 => rfl); (case hd1 => rfl); (case hg2 => rfl); (case hd2 => rfl); (case ho2 => rfl); (case hr => first | (go_simp; done) | (go_simp; rfl)); (case hp => rfl); (case hx => rfl); (case hs => rfl); (case h1 => rfl); (case ht => kernel_rfl); intro gb524 hg w28 hbox hb; have n0_ := Aside0.mk (Kd.V_below (Kd.V_elderB (kv_ HO_516013.out) gb524 (Nat.le_of_eq hg.symm)) hb); have n1_ := Aside0.mk (Kd.V_below (Kd.V_elderB (kv_ HO_516014.out) gb524 (Nat.le_of_eq hg.symm)) hb); have n2_ := Aside0.mk (blk_below (kb_ BK515.out) hb); have n3_ := Aside0.mk (below_step (by repeat (first | (with_reducible first | exact HB.out | apply below_alloc | apply pw_below_drewN | apply below_drew1 | refine below_set ?_ GE515.out) | exact HB.out)) hb); have n4_ := Aside0.mk (hbox); have n5_ := Aside0.mk ((by rw [hg]; exact (below_size (by repeat (first | (with_reducible first | exact HB.out | apply below_alloc | apply pw_below_drewN | apply below_drew1 | refine below_set ?_ GE515.out) | exact HB.out))) : w.heap.size ≤ gb524)); have n6_ := Aside0.mk ((by rw [hg]; exact (below_size (by repeat (first | (with_reducible first | exact HB.out | apply below_alloc | apply pw_below_drewN | apply below_drew1 | refine below_set ?_ GE515.out) | exact HB.out))) : w.heap.size ≤ gb524)); have n7_ := Aside0.mk ((by rw [hg]; exact Nat.ne_of_lt (blk_lt (kb_ BK515.out)) : gb515 ≠ gb524)); have n8_ := Aside0.mk ((by rw [hg]; exact Nat.ne_of_gt (blk_lt (kb_ BK515.out)) : gb524 ≠ gb515)); clear HO_516013; clear HO_516014; clear BK515; clear HB; have HO_516013 := n0_; have HO_516014 := n1_; have BK515 := n2_; have HB := n3_; have BK524 := n4_; have GW524 := n5_; have GE524 := n6_; have NB515_524 := n7_; have NB524_515 := n8_; clear n0_ n1_ n2_ n3_ n4_ n5_ n6_ n7_ n8_; clear hb hbox hg; have hnb29 := NB524_515.out; have hnc29 := NB515_524.out; refine blk25_ BK524.out fun hcz30_0 hcz30_1 hcz30_2 hcz30_3 hcz30_4 hcz30_5 hcz30_6 hcz30_7 hcz30_8 hcz30_9 hcz30_10 hcz30_11 hcz30_12 hcz30_13 hcz30_14 hcz30_15 hcz30_16 hcz30_17 hcz30_18 hcz30_19 hcz30_20 hcz30_21 hcz30_22 hcz30_23 hcz30_24 hfz30_0 hfz30_1 hfz30_2 hfz30_3 hfz30_4 hfz30_5 hfz30_6 hfz30_7 hfz30_8 hfz30_9 hfz30_10 hfz30_11 hfz30_12 hfz30_13 hfz30_14 hfz30_15 hfz30_16 hfz30_17 hfz30_18 hfz30_19 hfz30_20 hfz30_21 hfz30_22 hfz30_23 hfz30_24 => ?_))
                   go_roundg k2
                   case measure => have := HJ3.out; have := HK2.out; omega
                   case rel => exact ⟨(wrap64 (x26_2 + 1)), (by first | rfl | (simp; done) | (simp [*]; done)), H', ⟨by have := HJ3.out; have := HK2.out; omega⟩, ⟨by (with_reducible repeat (first | apply Kd.V_alloc | apply Kd.V_drewN | apply Kd.V_drew)); exact Kd.V_mono HO_516013.out (fun _ hk => ⟨hk.1.1, hk.1.2⟩)⟩, ⟨by (with_reducible repeat (first | apply Kd.V_alloc | apply Kd.V_drewN | apply Kd.V_drew)); exact Kd.V_mono HO_516014.out (fun _ hk => ⟨hk.1.1, hk.1.2⟩)⟩, ⟨by (with_reducible repeat (first | refine blk_drewN ?_ _ | refine blk_drew ?_ | refine blk_alloc ?_ _)); exact BK515.out⟩, ⟨by repeat (first | (with_reducible first | exact HB.out | apply below_alloc | apply pw_below_drewN | apply below_drew1 | refine below_set ?_ GE515.out | refine below_set ?_ GE524.out) | exact HB.out)⟩⟩
               · rw [if_neg c25] at H
                 have c25b0 : decide (t522 ≤ ((rd_T44 l0 x26_2).f0.f1)) = false := decide_eq_false c25
                 clear c25
                 have H' := Aside0.mk H
                 clear H
                 have p523 : 0 ≤ (x26_2 : Int) := of_decide_eq_true (by first | (with_reducible assumption) | assumption)
                 have q523 : x26_2 < (l0.length : Int) := of_decide_eq_true (by first | (with_reducible assumption) | assumption)
                 obtain ⟨ad523, A523_13, c523_13, A523_14, c523_14, e523, hx523_0, hx523_1, hx523_2, hx523_3, hx523_4, hx523_5, hx523_6, hx523_7, hx523_8, hx523_9, hx523_10, hx523_11, hx523_12, hx523_13, hx523_14, hx523_15, hx523_16, hx523_17, hx523_18, hx523_19, hx523_20, hx523_21, hx523_22, hx523_23, hx523_24, hl523_13, hi523_13, hl523_14, hi523_14⟩ := at_T44 HR0.out x26_2 p523 q523
                 cases e523
                 replace hx523_0 := (HB.out.cell (World.block_lt_of_cell? w _ hx523_0)).trans hx523_0
                 replace hx523_1 := (HB.out.cell (World.block_lt_of_cell? w _ hx523_1)).trans hx523_1
                 replace hx523_2 := (HB.out.cell (World.block_lt_of_cell? w _ hx523_2)).trans hx523_2
                 replace hx523_3 := (HB.out.cell (World.block_lt_of_cell? w _ hx523_3)).trans hx523_3
                 replace hx523_4 := (HB.out.cell (World.block_lt_of_cell? w _ hx523_4)).trans hx523_4
                 replace hx523_5 := (HB.out.cell (World.block_lt_of_cell? w _ hx523_5)).trans hx523_5
                 replace hx523_6 := (HB.out.cell (World.block_lt_of_cell? w _ hx523_6)).trans hx523_6
                 replace hx523_7 := (HB.out.cell (World.block_lt_of_cell? w _ hx523_7)).trans hx523_7
                 replace hx523_8 := (HB.out.cell (World.block_lt_of_cell? w _ hx523_8)).trans hx523_8
                 replace hx523_9 := (HB.out.cell (World.block_lt_of_cell? w _ hx523_9)).trans hx523_9
                 replace hx523_10 := (HB.out.cell (World.block_lt_of_cell? w _ hx523_10)).trans hx523_10
                 replace hx523_11 := (HB.out.cell (World.block_lt_of_cell? w _ hx523_11)).trans hx523_11
                 replace hx523_12 := (HB.out.cell (World.block_lt_of_cell? w _ hx523_12)).trans hx523_12
                 replace hx523_13 := (HB.out.cell (World.block_lt_of_cell? w _ hx523_13)).trans hx523_13
                 replace hx523_14 := (HB.out.cell (World.block_lt_of_cell? w _ hx523_14)).trans hx523_14
                 replace hx523_15 := (HB.out.cell (World.block_lt_of_cell? w _ hx523_15)).trans hx523_15
                 replace hx523_16 := (HB.out.cell (World.block_lt_of_cell? w _ hx523_16)).trans hx523_16
                 replace hx523_17 := (HB.out.cell (World.block_lt_of_cell? w _ hx523_17)).trans hx523_17
                 replace hx523_18 := (HB.out.cell (World.block_lt_of_cell? w _ hx523_18)).trans hx523_18
                 replace hx523_19 := (HB.out.cell (World.block_lt_of_cell? w _ hx523_19)).trans hx523_19
                 replace hx523_20 := (HB.out.cell (World.block_lt_of_cell? w _ hx523_20)).trans hx523_20
                 replace hx523_21 := (HB.out.cell (World.block_lt_of_cell? w _ hx523_21)).trans hx523_21
                 replace hx523_22 := (HB.out.cell (World.block_lt_of_cell? w _ hx523_22)).trans hx523_22
                 replace hx523_23 := (HB.out.cell (World.block_lt_of_cell? w _ hx523_23)).trans hx523_23
                 replace hx523_24 := (HB.out.cell (World.block_lt_of_cell? w _ hx523_24)).trans hx523_24
                 have HR523_13 := Aside0.mk hi523_13
                 have HC523_13 := Aside0.mk hl523_13
                 clear hi523_13 hl523_13
                 have HR523_14 := Aside0.mk hi523_14
                 have HC523_14 := Aside0.mk hl523_14
                 clear hi523_14 hl523_14
                 replace p523 := eq_true p523
                 replace q523 := eq_true q523
                 go_wp2_with (first | ((with_reducible refine gate_dst (N := 29) rfl ?_); refine cells_load_event ?lg (N := 29) ?ld (t := 44) (x := ?lxxz31) ?lo (p := ?lppz31) ?lx (v := .int .i64 ((rd_T44 l0 x26_2).f0.f0)) (cs := [.int .i64 ((rd_T44 l0 x26_2).f0.f1), .int .i64 ((rd_T44 l0 x26_2).f1), .int .i64 ((rd_T44 l0 x26_2).f2.f0), .int .i64 ((rd_T44 l0 x26_2).f2.f1), .int .i64 ((rd_T44 l0 x26_2).f3.f0), .int .i64 ((rd_T44 l0 x26_2).f3.f1), .int .i64 ((rd_T44 l0 x26_2).f4.f0), .int .i64 ((rd_T44 l0 x26_2).f4.f1.f0), .int .i64 ((rd_T44 l0 x26_2).f4.f1.f1), .int .i64 ((rd_T44 l0 x26_2).f4.f2.f0), .int .i64 ((rd_T44 l0 x26_2).f4.f2.f1), .int .i64 ((rd_T44 l0 x26_2).f4.f3), .slice A523_13 ((rd_T44 l0 x26_2).f4.f4).length c523_13, .slice A523_14 ((rd_T44 l0 x26_2).f4.f5).length c523_14, .bool ((rd_T44 l0 x26_2).f4.f6), .int .i64 ((rd_T44 l0 x26_2).f5), .int .i64 ((rd_T44 l0 x26_2).f6.f0), .int .i64 ((rd_T44 l0 x26_2).f6.f1), .int .i64 ((rd_T44 l0 x26_2).f6.f2), .int .i64 ((rd_T44 l0 x26_2).f6.f3), .int .i64 ((rd_T44 l0 x26_2).f6.f4), .int .i64 ((rd_T44 l0 x26_2).f6.f5), .int .i64 ((rd_T44 l0 x26_2).f6.f6), .bool ((rd_T44 l0 x26_2).f7)]) ?lD ?lt ?l0 ?lc ?_; (case lg => rfl); (case ld => rfl); (case lo => rfl); (case lx => first | rfl | (go_simp; done) | (go_simp; rfl)); (case lD => exact ⟨_, Try.underlying44, rfl⟩); (case lt => kernel_rfl); (case l0 => exact hx523_0); (case lc => exact ⟨hx523_1, hx523_2, hx523_3, hx523_4, hx523_5, hx523_6, hx523_7, hx523_8, hx523_9, hx523_10, hx523_11, hx523_12, hx523_13, hx523_14, hx523_15, hx523_16, hx523_17, hx523_18, hx523_19, hx523_20, hx523_21, hx523_22, hx523_23, hx523_24, trivial⟩)) | ((with_reducible refine gate_dst (N := 9) rfl ?_); (try (refine gate_guard (by rfl) ?_; dsimp only)); refine alloc_store_event ?hg1 (N := 9) ?hd1 ?hg2 ?hd2 ?ho2 (cs0 := #[.int .i64 0, .int .i64 0, .int .i64 0, .int .i64 0, .int .i64 0, .int .i64 0, .int .i64 0, .int .i64 0, .int .i64 0, .int .i64 0, .int .i64 0, .int .i64 0, .int .i64 0, .slice none 0 0, .slice none 0 0, .bool false, .int .i64 0, .int .i64 0, .int .i64 0, .int .i64 0, .int .i64 0, .int .i64 0, .int .i64 0, .int .i64 0, .bool false]) (cs := #[.int .i64 ((rd_T44 l0 x26_2).f0.f0), .int .i64 ((rd_T44 l0 x26_2).f0.f1), .int .i64 ((rd_T44 l0 x26_2).f1), .int .i64 ((rd_T44 l0 x26_2).f2.f0), .int .i64 ((rd_T44 l0 x26_2).f2.f1), .int .i64 ((rd_T44 l0 x26_2).f3.f0), .int .i64 ((rd_T44 l0 x26_2).f3.f1), .int .i64 ((rd_T44 l0 x26_2).f4.f0), .int .i64 ((rd_T44 l0 x26_2).f4.f1.f0), .int .i64 ((rd_T44 l0 x26_2).f4.f1.f1), .int .i64 ((rd_T44 l0 x26_2).f4.f2.f0), .int .i64 ((rd_T44 l0 x26_2).f4.f2.f1), .int .i64 ((rd_T44 l0 x26_2).f4.f3), .slice A523_13 ((rd_T44 l0 x26_2).f4.f4).length c523_13, .slice A523_14 ((rd_T44 l0 x26_2).f4.f5).length c523_14, .bool ((rd_T44 l0 x26_2).f4.f6), .int .i64 ((rd_T44 l0 x26_2).f5), .int .i64 ((rd_T44 l0 x26_2).f6.f0), .int .i64 ((rd_T44 l0 x26_2).f6.f1), .int .i64 ((rd_T44 l0 x26_2).f6.f2), .int .i64 ((rd_T44 l0 x26_2).f6.f3), .int .i64 ((rd_T44 l0 x26_2).f6.f4), .int .i64 ((rd_T44 l0 x26_2).f6.f5), .int .i64 ((rd_T44 l0 x26_2).f6.f6), .bool ((rd_T44 l0 x26_2).f7)]) (t := 44) (x := ?xxw32) ?hr ?hp ?hx ?hs ?h1 ?ht ?_; (case hg1 => rfl); (case hd1 => rfl); (case hg2 => rfl); (case hd2 => rfl); (case ho2 => rfl); (case hr => first | (go_simp; done) | (go_simp; rfl)); (case hp => rfl); (case hx => rfl); (case hs => rfl); (case h1 => rfl); (case ht => kernel_rfl); intro gb524 hg w32 hbox hb; have n0_ := Aside0.mk (Kd.V_below (Kd.V_elderB (kv_ HO_516013.out) gb524 (Nat.le_of_eq hg.symm)) hb); have n1_ := Aside0.mk (Kd.V_below (Kd.V_elderB (kv_ HO_516014.out) gb524 (Nat.le_of_eq hg.symm)) hb); have n2_ := Aside0.mk (blk_below (kb_ BK515.out) hb); have n3_ := Aside0.mk (below_step (by repeat (first | (with_reducible first | exact HB.out | apply below_alloc | apply pw_below_drewN | apply below_drew1 | refine below_set ?_ GE515.out) | exact HB.out)) hb); have n4_ := Aside0.mk (hbox); have n5_ := Aside0.mk ((by rw [hg]; exact (below_size (by repeat (first | (with_reducible first | exact HB.out | apply below_alloc | apply pw_below_drewN | apply below_drew1 | refine below_set ?_ GE515.out) | exact HB.out))) : w.heap.size ≤ gb524)); have n6_ := Aside0.mk ((by rw [hg]; exact (below_size (by repeat (first | (with_reducible first | exact HB.out | apply below_alloc | apply pw_below_drewN | apply below_drew1 | refine below_set ?_ GE515.out) | exact HB.out))) : w.heap.size ≤ gb524)); have n7_ := Aside0.mk ((by rw [hg]; exact Nat.ne_of_lt (blk_lt (kb_ BK515.out)) : gb515 ≠ gb524)); have n8_ := Aside0.mk ((by rw [hg]; exact Nat.ne_of_gt (blk_lt (kb_ BK515.out)) : gb524 ≠ gb515)); clear HO_516013; clear HO_516014; clear BK515; clear HB; have HO_516013 := n0_; have HO_516014 := n1_; have BK515 := n2_; have HB := n3_; have BK524 := n4_; have GW524 := n5_; have GE524 := n6_; have NB515_524 := n7_; have NB524_515 := n8_; clear n0_ n1_ n2_ n3_ n4_ n5_ n6_ n7_ n8_; clear hb hbox hg; have hnb33 := NB524_515.out; have hnc33 := NB515_524.out; refine blk25_ BK524.out fun hcz34_0 hcz34_1 hcz34_2 hcz34_3 hcz34_4 hcz34_5 hcz34_6 hcz34_7 hcz34_8 hcz34_9 hcz34_10 hcz34_11 hcz34_12 hcz34_13 hcz34_14 hcz34_15 hcz34_16 hcz34_17 hcz34_18 hcz34_19 hcz34_20 hcz34_21 hcz34_22 hcz34_23 hcz34_24 hfz34_0 hfz34_1 hfz34_2 hfz34_3 hfz34_4 hfz34_5 hfz34_6 hfz34_7 hfz34_8 hfz34_9 hfz34_10 hfz34_11 hfz34_12 hfz34_13 hfz34_14 hfz34_15 hfz34_16 hfz34_17 hfz34_18 hfz34_19 hfz34_20 hfz34_21 hfz34_22 hfz34_23 hfz34_24 => ?_))
                 go_roundg k2
                 case measure => have := HJ3.out; have := HK2.out; omega
                 case rel => exact ⟨(wrap64 (x26_2 + 1)), (by first | rfl | (simp; done) | (simp [*]; done)), H', ⟨by have := HJ3.out; have := HK2.out; omega⟩, ⟨by (with_reducible repeat (first | apply Kd.V_alloc | apply Kd.V_drewN | apply Kd.V_drew)); exact Kd.V_mono HO_516013.out (fun _ hk => ⟨hk.1.1, hk.1.2⟩)⟩, ⟨by (with_reducible repeat (first | apply Kd.V_alloc | apply Kd.V_drewN | apply Kd.V_drew)); exact Kd.V_mono HO_516014.out (fun _ hk => ⟨hk.1.1, hk.1.2⟩)⟩, ⟨by (with_reducible repeat (first | refine blk_drewN ?_ _ | refine blk_drew ?_ | refine blk_alloc ?_ _)); exact BK515.out⟩, ⟨by repeat (first | (with_reducible first | exact HB.out | apply below_alloc | apply pw_below_drewN | apply below_drew1 | refine below_set ?_ GE515.out | refine below_set ?_ GE524.out) | exact HB.out)⟩⟩
             · rw [if_neg c24] at H
               have c24b0 : (((rd_T44 l0 x26_2).f0.f0) == a2) = false := beq_eq_false_iff_ne.mpr c24
               have c24b1 : (((rd_T44 l0 x26_2).f0.f0) != a2) = true := bne_iff_ne.mpr c24
               have H' := Aside0.mk H
               clear H
               have p523 : 0 ≤ (x26_2 : Int) := of_decide_eq_true (by first | (with_reducible assumption) | assumption)
               have q523 : x26_2 < (l0.length : Int) := of_decide_eq_true (by first | (with_reducible assumption) | assumption)
               obtain ⟨ad523, A523_13, c523_13, A523_14, c523_14, e523, hx523_0, hx523_1, hx523_2, hx523_3, hx523_4, hx523_5, hx523_6, hx523_7, hx523_8, hx523_9, hx523_10, hx523_11, hx523_12, hx523_13, hx523_14, hx523_15, hx523_16, hx523_17, hx523_18, hx523_19, hx523_20, hx523_21, hx523_22, hx523_23, hx523_24, hl523_13, hi523_13, hl523_14, hi523_14⟩ := at_T44 HR0.out x26_2 p523 q523
               cases e523
               replace hx523_0 := (HB.out.cell (World.block_lt_of_cell? w _ hx523_0)).trans hx523_0
               replace hx523_1 := (HB.out.cell (World.block_lt_of_cell? w _ hx523_1)).trans hx523_1
               replace hx523_2 := (HB.out.cell (World.block_lt_of_cell? w _ hx523_2)).trans hx523_2
               replace hx523_3 := (HB.out.cell (World.block_lt_of_cell? w _ hx523_3)).trans hx523_3
               replace hx523_4 := (HB.out.cell (World.block_lt_of_cell? w _ hx523_4)).trans hx523_4
               replace hx523_5 := (HB.out.cell (World.block_lt_of_cell? w _ hx523_5)).trans hx523_5
               replace hx523_6 := (HB.out.cell (World.block_lt_of_cell? w _ hx523_6)).trans hx523_6
               replace hx523_7 := (HB.out.cell (World.block_lt_of_cell? w _ hx523_7)).trans hx523_7
               replace hx523_8 := (HB.out.cell (World.block_lt_of_cell? w _ hx523_8)).trans hx523_8
               replace hx523_9 := (HB.out.cell (World.block_lt_of_cell? w _ hx523_9)).trans hx523_9
               replace hx523_10 := (HB.out.cell (World.block_lt_of_cell? w _ hx523_10)).trans hx523_10
               replace hx523_11 := (HB.out.cell (World.block_lt_of_cell? w _ hx523_11)).trans hx523_11
               replace hx523_12 := (HB.out.cell (World.block_lt_of_cell? w _ hx523_12)).trans hx523_12
               replace hx523_13 := (HB.out.cell (World.block_lt_of_cell? w _ hx523_13)).trans hx523_13
               replace hx523_14 := (HB.out.cell (World.block_lt_of_cell? w _ hx523_14)).trans hx523_14
               replace hx523_15 := (HB.out.cell (World.block_lt_of_cell? w _ hx523_15)).trans hx523_15
               replace hx523_16 := (HB.out.cell (World.block_lt_of_cell? w _ hx523_16)).trans hx523_16
               replace hx523_17 := (HB.out.cell (World.block_lt_of_cell? w _ hx523_17)).trans hx523_17
               replace hx523_18 := (HB.out.cell (World.block_lt_of_cell? w _ hx523_18)).trans hx523_18
               replace hx523_19 := (HB.out.cell (World.block_lt_of_cell? w _ hx523_19)).trans hx523_19
               replace hx523_20 := (HB.out.cell (World.block_lt_of_cell? w _ hx523_20)).trans hx523_20
               replace hx523_21 := (HB.out.cell (World.block_lt_of_cell? w _ hx523_21)).trans hx523_21
               replace hx523_22 := (HB.out.cell (World.block_lt_of_cell? w _ hx523_22)).trans hx523_22
               replace hx523_23 := (HB.out.cell (World.block_lt_of_cell? w _ hx523_23)).trans hx523_23
               replace hx523_24 := (HB.out.cell (World.block_lt_of_cell? w _ hx523_24)).trans hx523_24
               have HR523_13 := Aside0.mk hi523_13
               have HC523_13 := Aside0.mk hl523_13
               clear hi523_13 hl523_13
               have HR523_14 := Aside0.mk hi523_14
               have HC523_14 := Aside0.mk hl523_14
               clear hi523_14 hl523_14
               replace p523 := eq_true p523
               replace q523 := eq_true q523
               go_wp2_with (first | ((with_reducible refine gate_dst (N := 29) rfl ?_); refine cells_load_event ?lg (N := 29) ?ld (t := 44) (x := ?lxxz35) ?lo (p := ?lppz35) ?lx (v := .int .i64 ((rd_T44 l0 x26_2).f0.f0)) (cs := [.int .i64 ((rd_T44 l0 x26_2).f0.f1), .int .i64 ((rd_T44 l0 x26_2).f1), .int .i64 ((rd_T44 l0 x26_2).f2.f0), .int .i64 ((rd_T44 l0 x26_2).f2.f1), .int .i64 ((rd_T44 l0 x26_2).f3.f0), .int .i64 ((rd_T44 l0 x26_2).f3.f1), .int .i64 ((rd_T44 l0 x26_2).f4.f0), .int .i64 ((rd_T44 l0 x26_2).f4.f1.f0), .int .i64 ((rd_T44 l0 x26_2).f4.f1.f1), .int .i64 ((rd_T44 l0 x26_2).f4.f2.f0), .int .i64 ((rd_T44 l0 x26_2).f4.f2.f1), .int .i64 ((rd_T44 l0 x26_2).f4.f3), .slice A523_13 ((rd_T44 l0 x26_2).f4.f4).length c523_13, .slice A523_14 ((rd_T44 l0 x26_2).f4.f5).length c523_14, .bool ((rd_T44 l0 x26_2).f4.f6), .int .i64 ((rd_T44 l0 x26_2).f5), .int .i64 ((rd_T44 l0 x26_2).f6.f0), .int .i64 ((rd_T44 l0 x26_2).f6.f1), .int .i64 ((rd_T44 l0 x26_2).f6.f2), .int .i64 ((rd_T44 l0 x26_2).f6.f3), .int .i64 ((rd_T44 l0 x26_2).f6.f4), .int .i64 ((rd_T44 l0 x26_2).f6.f5), .int .i64 ((rd_T44 l0 x26_2).f6.f6), .bool ((rd_T44 l0 x26_2).f7)]) ?lD ?lt ?l0 ?lc ?_; (case lg => rfl); (case ld => rfl); (case lo => rfl); (case lx => first | rfl | (go_simp; done) | (go_simp; rfl)); (case lD => exact ⟨_, Try.underlying44, rfl⟩); (case lt => kernel_rfl); (case l0 => exact hx523_0); (case lc => exact ⟨hx523_1, hx523_2, hx523_3, hx523_4, hx523_5, hx523_6, hx523_7, hx523_8, hx523_9, hx523_10, hx523_11, hx523_12, hx523_13, hx523_14, hx523_15, hx523_16, hx523_17, hx523_18, hx523_19, hx523_20, hx523_21, hx523_22, hx523_23, hx523_24, trivial⟩)) | ((with_reducible refine gate_dst (N := 9) rfl ?_); (try (refine gate_guard (by rfl) ?_; dsimp only)); refine alloc_store_event ?hg1 (N := 9) ?hd1 ?hg2 ?hd2 ?ho2 (cs0 := #[.int .i64 0, .int .i64 0, .int .i64 0, .int .i64 0, .int .i64 0, .int .i64 0, .int .i64 0, .int .i64 0, .int .i64 0, .int .i64 0, .int .i64 0, .int .i64 0, .int .i64 0, .slice none 0 0, .slice none 0 0, .bool false, .int .i64 0, .int .i64 0, .int .i64 0, .int .i64 0, .int .i64 0, .int .i64 0, .int .i64 0, .int .i64 0, .bool false]) (cs := #[.int .i64 ((rd_T44 l0 x26_2).f0.f0), .int .i64 ((rd_T44 l0 x26_2).f0.f1), .int .i64 ((rd_T44 l0 x26_2).f1), .int .i64 ((rd_T44 l0 x26_2).f2.f0), .int .i64 ((rd_T44 l0 x26_2).f2.f1), .int .i64 ((rd_T44 l0 x26_2).f3.f0), .int .i64 ((rd_T44 l0 x26_2).f3.f1), .int .i64 ((rd_T44 l0 x26_2).f4.f0), .int .i64 ((rd_T44 l0 x26_2).f4.f1.f0), .int .i64 ((rd_T44 l0 x26_2).f4.f1.f1), .int .i64 ((rd_T44 l0 x26_2).f4.f2.f0), .int .i64 ((rd_T44 l0 x26_2).f4.f2.f1), .int .i64 ((rd_T44 l0 x26_2).f4.f3), .slice A523_13 ((rd_T44 l0 x26_2).f4.f4).length c523_13, .slice A523_14 ((rd_T44 l0 x26_2).f4.f5).length c523_14, .bool ((rd_T44 l0 x26_2).f4.f6), .int .i64 ((rd_T44 l0 x26_2).f5), .int .i64 ((rd_T44 l0 x26_2).f6.f0), .int .i64 ((rd_T44 l0 x26_2).f6.f1), .int .i64 ((rd_T44 l0 x26_2).f6.f2), .int .i64 ((rd_T44 l0 x26_2).f6.f3), .int .i64 ((rd_T44 l0 x26_2).f6.f4), .int .i64 ((rd_T44 l0 x26_2).f6.f5), .int .i64 ((rd_T44 l0 x26_2).f6.f6), .bool ((rd_T44 l0 x26_2).f7)]) (t := 44) (x := ?xxw36) ?hr ?hp ?hx ?hs ?h1 ?ht ?_; (case hg1 => rfl); (case hd1 => rfl); (case hg2 => rfl); (case hd2 => rfl); (case ho2 => rfl); (case hr => first | (go_simp; done) | (go_simp; rfl)); (case hp => rfl); (case hx => rfl); (case hs => rfl); (case h1 => rfl); (case ht => kernel_rfl); intro gb524 hg w36 hbox hb; have n0_ := Aside0.mk (Kd.V_below (Kd.V_elderB (kv_ HO_516013.out) gb524 (Nat.le_of_eq hg.symm)) hb); have n1_ := Aside0.mk (Kd.V_below (Kd.V_elderB (kv_ HO_516014.out) gb524 (Nat.le_of_eq hg.symm)) hb); have n2_ := Aside0.mk (blk_below (kb_ BK515.out) hb); have n3_ := Aside0.mk (below_step (by repeat (first | (with_reducible first | exact HB.out | apply below_alloc | apply pw_below_drewN | apply below_drew1 | refine below_set ?_ GE515.out) | exact HB.out)) hb); have n4_ := Aside0.mk (hbox); have n5_ := Aside0.mk ((by rw [hg]; exact (below_size (by repeat (first | (with_reducible first | exact HB.out | apply below_alloc | apply pw_below_drewN | apply below_drew1 | refine below_set ?_ GE515.out) | exact HB.out))) : w.heap.size ≤ gb524)); have n6_ := Aside0.mk ((by rw [hg]; exact (below_size (by repeat (first | (with_reducible first | exact HB.out | apply below_alloc | apply pw_below_drewN | apply below_drew1 | refine below_set ?_ GE515.out) | exact HB.out))) : w.heap.size ≤ gb524)); have n7_ := Aside0.mk ((by rw [hg]; exact Nat.ne_of_lt (blk_lt (kb_ BK515.out)) : gb515 ≠ gb524)); have n8_ := Aside0.mk ((by rw [hg]; exact Nat.ne_of_gt (blk_lt (kb_ BK515.out)) : gb524 ≠ gb515)); clear HO_516013; clear HO_516014; clear BK515; clear HB; have HO_516013 := n0_; have HO_516014 := n1_; have BK515 := n2_; have HB := n3_; have BK524 := n4_; have GW524 := n5_; have GE524 := n6_; have NB515_524 := n7_; have NB524_515 := n8_; clear n0_ n1_ n2_ n3_ n4_ n5_ n6_ n7_ n8_; clear hb hbox hg; have hnb37 := NB524_515.out; have hnc37 := NB515_524.out; refine blk25_ BK524.out fun hcz38_0 hcz38_1 hcz38_2 hcz38_3 hcz38_4 hcz38_5 hcz38_6 hcz38_7 hcz38_8 hcz38_9 hcz38_10 hcz38_11 hcz38_12 hcz38_13 hcz38_14 hcz38_15 hcz38_16 hcz38_17 hcz38_18 hcz38_19 hcz38_20 hcz38_21 hcz38_22 hcz38_23 hcz38_24 hfz38_0 hfz38_1 hfz38_2 hfz38_3 hfz38_4 hfz38_5 hfz38_6 hfz38_7 hfz38_8 hfz38_9 hfz38_10 hfz38_11 hfz38_12 hfz38_13 hfz38_14 hfz38_15 hfz38_16 hfz38_17 hfz38_18 hfz38_19 hfz38_20 hfz38_21 hfz38_22 hfz38_23 hfz38_24 => ?_))
               go_roundg k2
               case measure => have := HJ3.out; have := HK2.out; omega
               case rel => exact ⟨(wrap64 (x26_2 + 1)), (by first | rfl | (simp; done) | (simp [*]; done)), H', ⟨by have := HJ3.out; have := HK2.out; omega⟩, ⟨by (with_reducible repeat (first | apply Kd.V_alloc | apply Kd.V_drewN | apply Kd.V_drew)); exact Kd.V_mono HO_516013.out (fun _ hk => ⟨hk.1.1, hk.1.2⟩)⟩, ⟨by (with_reducible repeat (first | apply Kd.V_alloc | apply Kd.V_drewN | apply Kd.V_drew)); exact Kd.V_mono HO_516014.out (fun _ hk => ⟨hk.1.1, hk.1.2⟩)⟩, ⟨by (with_reducible repeat (first | refine blk_drewN ?_ _ | refine blk_drew ?_ | refine blk_alloc ?_ _)); exact BK515.out⟩, ⟨by repeat (first | (with_reducible first | exact HB.out | apply below_alloc | apply pw_below_drewN | apply below_drew1 | refine below_set ?_ GE515.out | refine below_set ?_ GE524.out) | exact HB.out)⟩⟩
           · rw [if_neg c23] at H
             exact absurd H (by simp)
         · rw [if_neg c22] at H
           exact absurd H (by simp)
       · rw [if_neg c21] at H
         have c21b0 : decide (x26_2 < (l0.length : Int)) = false := decide_eq_false c21
         clear c21
         obtain ⟨t525, A39, H⟩ := bs_ H
         obtain ⟨y528, hy528⟩ : ∃ y_ : List (S44), y_ = (([(⟨(⟨a1_0, a1_1⟩ : S24), a1_2, (⟨a1_3, a1_4⟩ : S40), (⟨a1_5, a1_6⟩ : S40), (⟨a1_7, (⟨a1_8, a1_9⟩ : S26), (⟨a1_10, a1_11⟩ : S28), a1_12, l1_13, l1_14, a1_15⟩ : S32), a1_16, (⟨a1_17, a1_18, a1_19, a1_20, a1_21, a1_22, a1_23⟩ : S42), a1_24⟩ : S44)] : List (S44))) := ⟨_, rfl⟩
         replace H : (if t525.length + y528.length < 606627104979 then ((index_Slot.f k2 (t525 ++ y528) a2).bind fun t534 => (if t522 ≥ 1 then (if t534 ≥ t522 then (if a1_0 = a2 then ((althinglaw11_awake.f k2).bind fun t535 => (some t535)) else (if t534 = t522 then ((althinglaw11_awake.f k2).bind fun t536 => (some t536)) else (none))) else (none)) else (none))) else (none)) = some r := by first | (rw [hy528]; with_reducible exact H) | (have H2_ := (Option.bind_some _ _).symm.trans H; rw [hy528]; with_reducible exact H2_) | (have H2_ := (Option.bind_some _ _).symm.trans H; with_reducible exact H2_) | with_reducible exact H | (rw [hy528]; exact H) | exact H
         have Ny528 := Aside0.mk hy528
         clear hy528
         by_cases c40 : t525.length + y528.length < 606627104979
         · rw [if_pos c40] at H
           have LMc40 := Aside0.mk c40
           clear c40
           obtain ⟨y531, hy531⟩ : ∃ y_ : List (S44), y_ = (t525 ++ y528) := ⟨_, rfl⟩
           replace H : ((index_Slot.f k2 y531 a2).bind fun t534 => (if t522 ≥ 1 then (if t534 ≥ t522 then (if a1_0 = a2 then ((althinglaw11_awake.f k2).bind fun t535 => (some t535)) else (if t534 = t522 then ((althinglaw11_awake.f k2).bind fun t536 => (some t536)) else (none))) else (none)) else (none))) = some r := by first | (rw [hy531]; with_reducible exact H) | (have H2_ := (Option.bind_some _ _).symm.trans H; rw [hy531]; with_reducible exact H2_) | (have H2_ := (Option.bind_some _ _).symm.trans H; with_reducible exact H2_) | with_reducible exact H | (rw [hy531]; exact H) | exact H
           have Ny531 := Aside0.mk hy531
           clear hy531
           obtain ⟨t534, A41, H⟩ := bs_ H
           by_cases c42 : t522 ≥ 1
           · rw [if_pos c42] at H
             have c42b0 : decide (1 ≤ t522) = true := decide_eq_true c42
             clear c42
             by_cases c43 : t534 ≥ t522
             · rw [if_pos c43] at H
               have c43b0 : decide (t522 ≤ t534) = true := decide_eq_true c43
               clear c43
               by_cases c44 : a1_0 = a2
               · rw [if_pos c44] at H
                 have c44b0 : (a1_0 == a2) = true := beq_iff_eq.mpr c44
                 have c44b1 : (a1_0 != a2) = false := bne_eq_false_iff_eq.mpr c44
                 clear c44
                 obtain ⟨t535, A45, H⟩ := bs_ H
                 obtain rfl := Option.some.inj H
                 try go_wp2
                 have n0_ := Aside0.mk (Kd.V_drew HO_516013.out)
                 have n1_ := Aside0.mk (Kd.V_drew HO_516014.out)
                 have n2_ := Aside0.mk (blk_drew BK515.out)
                 have n3_ := Aside0.mk (below_drew1 HB.out)
                 clear HO_516013
                 clear HO_516014
                 clear BK515
                 clear HB
                 have HO_516013 := n0_
                 have HO_516014 := n1_
                 have BK515 := n2_
                 have HB := n3_
                 clear n0_ n1_ n2_ n3_
                 refine start_ (n := 8) (S := fun w' => w'.heap[gb515]? = some (.cells #[.int .i64 a1_0, .int .i64 a1_1, .int .i64 a1_2, .int .i64 a1_3, .int .i64 a1_4, .int .i64 a1_5, .int .i64 a1_6, .int .i64 a1_7, .int .i64 a1_8, .int .i64 a1_9, .int .i64 a1_10, .int .i64 a1_11, .int .i64 a1_12, .slice A1_13 l1_13.length c1_13, .slice A1_14 l1_14.length c1_14, .bool a1_15, .int .i64 a1_16, .int .i64 a1_17, .int .i64 a1_18, .int .i64 a1_19, .int .i64 a1_20, .int .i64 a1_21, .int .i64 a1_22, .int .i64 a1_23, .bool a1_24] 44 (0, 0))) (ds := []) #[false, false, false, false, false, false, false, false] (by kernel_rfl) rfl rfl BK515.out (fun hHeld => ?_); refine with_tabW althinglaw11_IndexSlots.tab10 althinglaw11_IndexSlots.bits10 (fun HT_ HW_ => ?_)
                 generalize wr.drew = w46 at HO_516013 HO_516014 BK515 HB hHeld ⊢
                 refine pure_ (i := 0) (N := some 49) (v := ?_) (a' := ?_) #[true, false, false, false, false, false, false, false] rfl rfl (any_of HT_.out (by kernel_rfl)) (fun _ _ _ h => h) (Or.inl ⟨by rfl, ?_⟩) ?_ ?_
                 rotate_left
                 · intro w'
                   go_simp
                   with_reducible rfl
                 rotate_left
                 · simp only [Act.put, List.setIfInBounds_toArray, List.set_cons_zero, List.set_cons_succ, i64_w, i32_w]
                   rfl
                 refine pure_ (i := 5) (N := some 54) (v := ?_) (a' := ?_) #[true, false, false, false, false, true, false, false] rfl rfl (any_of HT_.out (by kernel_rfl)) (fun _ _ _ h => h) (Or.inl ⟨by rfl, ?_⟩) ?_ ?_
                 rotate_left
                 · intro w'
                   go_simp
                   with_reducible rfl
                 rotate_left
                 · simp only [Act.put, List.setIfInBounds_toArray, List.set_cons_zero, List.set_cons_succ, i64_w, i32_w]
                   rfl
                 refine take_ (i := 2) (N := some 51) (v := ?_) (a' := ?_) #[true, false, true, false, false, true, false, false] rfl rfl (take_ofW HT_.out HW_.out (by kernel_rfl)) (fun _ _ _ h => h) (Or.inl ⟨by rfl, ?_⟩) hHeld ?_ ?_
                 rotate_left
                 · rintro w' s0
                   first | (refine blk_yield2 (T := 44) s0 ?_ ⟨_, Try.underlying44, rfl⟩ ?_; exact ⟨rfl, rfl⟩; kernel_rfl) | (refine blk25_ s0 fun _ _ _ _ _ _ _ _ _ _ _ _ _ _ _ _ _ _ _ _ _ _ _ _ _ _ _ _ _ _ _ _ _ _ _ _ _ _ _ _ _ _ _ _ _ _ _ _ _ _ => ?_; go_simp; with_reducible rfl)
                 rotate_left
                 · simp only [Act.put, List.setIfInBounds_toArray, List.set_cons_zero, List.set_cons_succ, i64_w, i32_w]
                   rfl
                 refine join_ (σ := Value × Value) 3 #[true, true, true, true, false, true, false, false] (fun s_ => [(50, s_.1), (52, s_.2)]) (fun s_ w' => (w'.heap[gb515]? = some (.cells #[.int .i64 a1_0, .int .i64 a1_1, .int .i64 a1_2, .int .i64 a1_3, .int .i64 a1_4, .int .i64 a1_5, .int .i64 a1_6, .int .i64 a1_7, .int .i64 a1_8, .int .i64 a1_9, .int .i64 a1_10, .int .i64 a1_11, .int .i64 a1_12, .slice A1_13 l1_13.length c1_13, .slice A1_14 l1_14.length c1_14, .bool a1_15, .int .i64 a1_16, .int .i64 a1_17, .int .i64 a1_18, .int .i64 a1_19, .int .i64 a1_20, .int .i64 a1_21, .int .i64 a1_22, .int .i64 a1_23, .bool a1_24] 44 (0, 0))) ∧ (Kd.N k44 44 w' w.heap.size (fun k_ => ((P1_13_ k_ ∨ P1_14_ k_) ∨ w.heap.size ≤ k_) ∧ some k_ ≠ (s_.2 : Value).ownBlock ∧ k_ ≠ gb515) s_.1 t525) ∧ (Kd.N k44 44 w' w.heap.size (fun k_ => ((P1_13_ k_ ∨ P1_14_ k_) ∨ w.heap.size ≤ k_) ∧ some k_ ≠ (s_.1 : Value).ownBlock ∧ k_ ≠ gb515) s_.2 y528) ∧ (Kd.V k61 61 w' w.heap.size (fun k_ => ((P1_13_ k_ ∨ P1_14_ k_) ∨ w.heap.size ≤ k_) ∧ some k_ ≠ (s_.1 : Value).ownBlock ∧ some k_ ≠ (s_.2 : Value).ownBlock ∧ k_ ≠ gb515) (.slice A1_13 l1_13.length c1_13) l1_13) ∧ (Kd.V k46 46 w' w.heap.size (fun k_ => ((P1_13_ k_ ∨ P1_14_ k_) ∨ w.heap.size ≤ k_) ∧ some k_ ≠ (s_.1 : Value).ownBlock ∧ some k_ ≠ (s_.2 : Value).ownBlock ∧ k_ ≠ gb515) (.slice A1_14 l1_14.length c1_14) l1_14) ∧ (w'.heap[gb515]? = some (.cells #[.int .i64 a1_0, .int .i64 a1_1, .int .i64 a1_2, .int .i64 a1_3, .int .i64 a1_4, .int .i64 a1_5, .int .i64 a1_6, .int .i64 a1_7, .int .i64 a1_8, .int .i64 a1_9, .int .i64 a1_10, .int .i64 a1_11, .int .i64 a1_12, .slice A1_13 l1_13.length c1_13, .slice A1_14 l1_14.length c1_14, .bool a1_15, .int .i64 a1_16, .int .i64 a1_17, .int .i64 a1_18, .int .i64 a1_19, .int .i64 a1_20, .int .i64 a1_21, .int .i64 a1_22, .int .i64 a1_23, .bool a1_24] 44 (0, 0))) ∧ (Below w.heap.size w w')) ?_ ?_
                 rotate_left
                 · intro hCont
                   refine two_ (i := 1) (j := 3) (Ni := some 50) (Nj := some 52) #[true, true, true, false, false, true, false, false] #[true, false, true, true, false, true, false, false] rfl rfl rfl rfl (two_of HT_.out (by kernel_rfl)) (by decide) (by decide) (fun K hK => ?_) (fun K hK => ?_)
                   · skip
                     refine goes_ Try.func13 (by kernel_rfl) rfl #[.slice A0 l0.length c0] (by rfl) rfl rfl (by (try simp only [List.map_toArray, List.map_cons, List.map_nil]); first | done | rfl | (simp only [List.length_drop, List.length_take]; rfl)) ?_
                     with_reducible refine (althinglaw11_own.calls k2 _ _ l0 t525 _ ?side1 ?side2 A39.out).mono ?_
                     (case side1 => exact kc_ (Kd.C_below HR0.out HB.out))
                     (case side2 => exact HC0.out)
                     rintro e w47 ⟨v526, rfl, ho0, hb⟩
                     refine ⟨_, rfl, ?_⟩
                     have n0_ := Aside0.mk (Kd.V_elder' (kv_ HO_516013.out) (Kd.S_base ho0) hb)
                     have n1_ := Aside0.mk (Kd.V_elder' (kv_ HO_516014.out) (Kd.S_base ho0) hb)
                     have n2_ := Aside0.mk (Kd.N_lower (Kd.N_mono (ok' := fun k_ => ((P1_13_ k_ ∨ P1_14_ k_) ∨ w.heap.size ≤ k_) ∧ k_ ≠ gb515) (Kd.S_N (Kd.S_bound ho0)) (fun k_ hk_ => ⟨(.inr (Nat.le_trans (below_size (by repeat (first | (with_reducible first | exact HB.out | apply below_alloc | apply pw_below_drewN | apply below_drew1 | refine below_set ?_ GE515.out) | exact HB.out))) hk_.2.1)), (Kd.freshB (g := gb515) (o := .cells #[.int .i64 a1_0, .int .i64 a1_1, .int .i64 a1_2, .int .i64 a1_3, .int .i64 a1_4, .int .i64 a1_5, .int .i64 a1_6, .int .i64 a1_7, .int .i64 a1_8, .int .i64 a1_9, .int .i64 a1_10, .int .i64 a1_11, .int .i64 a1_12, .slice A1_13 l1_13.length c1_13, .slice A1_14 l1_14.length c1_14, .bool a1_15, .int .i64 a1_16, .int .i64 a1_17, .int .i64 a1_18, .int .i64 a1_19, .int .i64 a1_20, .int .i64 a1_21, .int .i64 a1_22, .int .i64 a1_23, .bool a1_24] 44 (0, 0)) (kb_ BK515.out) k_ hk_.2.1)⟩)) (below_size (by repeat (first | (with_reducible first | exact HB.out | apply below_alloc | apply pw_below_drewN | apply below_drew1 | refine below_set ?_ GE515.out) | exact HB.out))))
                     have n3_ := Aside0.mk (blk_below (kb_ BK515.out) hb)
                     have n4_ := Aside0.mk (below_step (by repeat (first | (with_reducible first | exact HB.out | apply below_alloc | apply pw_below_drewN | apply below_drew1 | refine below_set ?_ GE515.out) | exact HB.out)) hb)
                     clear HO_516013
                     clear HO_516014
                     clear BK515
                     clear HB
                     have HO_516013 := n0_
                     have HO_516014 := n1_
                     have HO527 := n2_
                     have BK515 := n3_
                     have HB := n4_
                     clear n0_ n1_ n2_ n3_ n4_
                     (try clear hb)
                     (try clear hb2)
                     (try clear hk)
                     (try clear hi)
                     (try clear ho0)
                     refine hK.out _ _ BK515.out (fun hHeld => ?_)
                     clear hK K
                     refine norm_ (a' := ?_) ?_ ?_
                     rotate_left
                     · show Act.put _ (some 50) _ = _
                       simp only [Act.put, List.setIfInBounds_toArray, List.set_cons_zero, List.set_cons_succ, i64_w, i32_w]
                       rfl
                     refine one_ (i := 3) (N := some 52) #[true, true, true, true, false, true, false, false] rfl rfl (one_of HT_.out (by kernel_rfl)) (by decide) (fun K hK => ?_)
                     refine Kd.N_lit_step k44 _ 44 ?hg (N' := 52) ?hd (xs := ([(⟨(⟨a1_0, a1_1⟩ : S24), a1_2, (⟨a1_3, a1_4⟩ : S40), (⟨a1_5, a1_6⟩ : S40), (⟨a1_7, (⟨a1_8, a1_9⟩ : S26), (⟨a1_10, a1_11⟩ : S28), a1_12, l1_13, l1_14, a1_15⟩ : S32), a1_16, (⟨a1_17, a1_18, a1_19, a1_20, a1_21, a1_22, a1_23⟩ : S42), a1_24⟩ : S44)] : List (S44))) (inner := [.int .i64 a1_0, .int .i64 a1_1, .int .i64 a1_2, .int .i64 a1_3, .int .i64 a1_4, .int .i64 a1_5, .int .i64 a1_6, .int .i64 a1_7, .int .i64 a1_8, .int .i64 a1_9, .int .i64 a1_10, .int .i64 a1_11, .int .i64 a1_12, .slice A1_13 l1_13.length c1_13, .slice A1_14 l1_14.length c1_14, .bool a1_15, .int .i64 a1_16, .int .i64 a1_17, .int .i64 a1_18, .int .i64 a1_19, .int .i64 a1_20, .int .i64 a1_21, .int .i64 a1_22, .int .i64 a1_23, .bool a1_24]) (ok := (fun k_ => ((P1_13_ k_ ∨ P1_14_ k_) ∨ w.heap.size ≤ k_) ∧ some k_ ≠ (v526 : Value).ownBlock ∧ k_ ≠ gb515)) (okp := (fun k_ => ((P1_13_ k_ ∨ P1_14_ k_) ∨ w.heap.size ≤ k_) ∧ some k_ ≠ (v526 : Value).ownBlock ∧ k_ ≠ gb515)) ?hr ?hp (fun _ hk => hk) ((show ∀ k_, w47.heap.size ≤ k_ → (fun k_ => ((P1_13_ k_ ∨ P1_14_ k_) ∨ w.heap.size ≤ k_) ∧ some k_ ≠ (v526 : Value).ownBlock ∧ k_ ≠ gb515) k_ from fun k_ hk => ⟨(.inr (Nat.le_trans (below_size (by repeat (first | (with_reducible first | exact HB.out | apply below_alloc | apply pw_below_drewN | apply below_drew1 | refine below_set ?_ GE515.out) | exact HB.out))) hk)), Kd.fresh' (Kd.N_lt (kn_ HO527.out)) k_ hk, Kd.freshB (g := gb515) (o := .cells #[.int .i64 a1_0, .int .i64 a1_1, .int .i64 a1_2, .int .i64 a1_3, .int .i64 a1_4, .int .i64 a1_5, .int .i64 a1_6, .int .i64 a1_7, .int .i64 a1_8, .int .i64 a1_9, .int .i64 a1_10, .int .i64 a1_11, .int .i64 a1_12, .slice A1_13 l1_13.length c1_13, .slice A1_14 l1_14.length c1_14, .bool a1_15, .int .i64 a1_16, .int .i64 a1_17, .int .i64 a1_18, .int .i64 a1_19, .int .i64 a1_20, .int .i64 a1_21, .int .i64 a1_22, .int .i64 a1_23, .bool a1_24] 44 (0, 0)) (kb_ BK515.out) k_ hk⟩) _ (Nat.le_refl _)) (Below.refl _ _) (Nat.le_refl _) (by simp) ?_; (case hd => rfl); (case hg => rfl); (case hr => first | (go_simp; done) | (go_simp; rfl)); (case hp => exact (Reps.front (show Kd.FK k44 _ _ (⟨(⟨a1_0, a1_1⟩ : S24), a1_2, (⟨a1_3, a1_4⟩ : S40), (⟨a1_5, a1_6⟩ : S40), (⟨a1_7, (⟨a1_8, a1_9⟩ : S26), (⟨a1_10, a1_11⟩ : S28), a1_12, l1_13, l1_14, a1_15⟩ : S32), a1_16, (⟨a1_17, a1_18, a1_19, a1_20, a1_21, a1_22, a1_23⟩ : S42), a1_24⟩ : S44) [.int .i64 a1_0, .int .i64 a1_1, .int .i64 a1_2, .int .i64 a1_3, .int .i64 a1_4, .int .i64 a1_5, .int .i64 a1_6, .int .i64 a1_7, .int .i64 a1_8, .int .i64 a1_9, .int .i64 a1_10, .int .i64 a1_11, .int .i64 a1_12, .slice A1_13 l1_13.length c1_13, .slice A1_14 l1_14.length c1_14, .bool a1_15, .int .i64 a1_16, .int .i64 a1_17, .int .i64 a1_18, .int .i64 a1_19, .int .i64 a1_20, .int .i64 a1_21, .int .i64 a1_22, .int .i64 a1_23, .bool a1_24] from (k44_mkF _ _ (⟨(⟨a1_0, a1_1⟩ : S24), a1_2, (⟨a1_3, a1_4⟩ : S40), (⟨a1_5, a1_6⟩ : S40), (⟨a1_7, (⟨a1_8, a1_9⟩ : S26), (⟨a1_10, a1_11⟩ : S28), a1_12, l1_13, l1_14, a1_15⟩ : S32), a1_16, (⟨a1_17, a1_18, a1_19, a1_20, a1_21, a1_22, a1_23⟩ : S42), a1_24⟩ : S44) (Kd.V_reads' (Kd.V_mono (ok' := (fun k_ => ((P1_13_ k_ ∨ P1_14_ k_) ∨ w.heap.size ≤ k_) ∧ some k_ ≠ (v526 : Value).ownBlock ∧ k_ ≠ gb515)) (HO_516013.out) (fun k_ hk => ⟨hk.1.1, ⟨hk.2, hk.1.2⟩⟩))).2.1 (Kd.V_F (Kd.V_mono (ok' := (fun k_ => ((P1_13_ k_ ∨ P1_14_ k_) ∨ w.heap.size ≤ k_) ∧ some k_ ≠ (v526 : Value).ownBlock ∧ k_ ≠ gb515)) (HO_516013.out) (fun k_ hk => ⟨hk.1.1, ⟨hk.2, hk.1.2⟩⟩))) (Kd.V_reads' (Kd.V_mono (ok' := (fun k_ => ((P1_13_ k_ ∨ P1_14_ k_) ∨ w.heap.size ≤ k_) ∧ some k_ ≠ (v526 : Value).ownBlock ∧ k_ ≠ gb515)) (HO_516014.out) (fun k_ hk => ⟨hk.1.1, ⟨hk.2, hk.1.2⟩⟩))).2.1 (Kd.V_F (Kd.V_mono (ok' := (fun k_ => ((P1_13_ k_ ∨ P1_14_ k_) ∨ w.heap.size ≤ k_) ∧ some k_ ≠ (v526 : Value).ownBlock ∧ k_ ≠ gb515)) (HO_516014.out) (fun k_ hk => ⟨hk.1.1, ⟨hk.2, hk.1.2⟩⟩))))) rfl (Reps.none _ _) rfl))
                     intro v529 w48 ho49 hb hg_ hnew_
                     clear hg_ hnew_
                     (first | rw [← Ny528.out] at ho49 | (simp only [Int.reduceToNat] at ho49; rw [← Ny528.out] at ho49))
                     have n0_ := Aside0.mk (Kd.V_elder' (kv_ HO_516013.out) (Kd.N_base ho49) hb)
                     have n1_ := Aside0.mk (Kd.V_elder' (kv_ HO_516014.out) (Kd.N_base ho49) hb)
                     have n2_ := Aside0.mk (Kd.N_elder' (kn_ HO527.out) (Kd.N_base ho49) hb)
                     have n3_ := Aside0.mk (Kd.N_lower ho49 (below_size (by repeat (first | (with_reducible first | exact HB.out | apply below_alloc | apply pw_below_drewN | apply below_drew1 | refine below_set ?_ GE515.out) | exact HB.out))))
                     have n4_ := Aside0.mk (blk_below (kb_ BK515.out) hb)
                     have n5_ := Aside0.mk (below_step (by repeat (first | (with_reducible first | exact HB.out | apply below_alloc | apply pw_below_drewN | apply below_drew1 | refine below_set ?_ GE515.out) | exact HB.out)) hb)
                     clear HO_516013
                     clear HO_516014
                     clear HO527
                     clear BK515
                     clear HB
                     have HO_516013 := n0_
                     have HO_516014 := n1_
                     have HO527 := n2_
                     have HO530 := n3_
                     have BK515 := n4_
                     have HB := n5_
                     clear n0_ n1_ n2_ n3_ n4_ n5_
                     clear hb ho49
                     refine hK.out _ _ BK515.out (fun hHeld => ?_)
                     clear hK K
                     refine norm_ (a' := ?_) ?_ ?_
                     rotate_left
                     · show Act.put _ (some 52) _ = _
                       simp only [Act.put, List.setIfInBounds_toArray, List.set_cons_zero, List.set_cons_succ, i64_w, i32_w]
                       rfl
                     exact norm_ (by simp only [putAll, Act.put, List.setIfInBounds_toArray, List.set_cons_zero, List.set_cons_succ]) (hCont (v526, v529) _ ⟨hHeld, (by (with_reducible repeat (first | apply Kd.N_alloc | apply Kd.N_drewN | apply Kd.N_drew)); exact Kd.N_mono HO527.out (fun _ hk => ⟨hk.1.1, ⟨hk.2, hk.1.2⟩⟩)), (kn_ HO530.out), (by (with_reducible repeat (first | apply Kd.V_alloc | apply Kd.V_drewN | apply Kd.V_drew)); exact Kd.V_mono HO_516013.out (fun _ hk => ⟨hk.1.1.1, ⟨hk.1.2, ⟨hk.2, hk.1.1.2⟩⟩⟩)), (by (with_reducible repeat (first | apply Kd.V_alloc | apply Kd.V_drewN | apply Kd.V_drew)); exact Kd.V_mono HO_516014.out (fun _ hk => ⟨hk.1.1.1, ⟨hk.1.2, ⟨hk.2, hk.1.1.2⟩⟩⟩)), (kb_ BK515.out), (by repeat (first | (with_reducible first | exact HB.out | apply below_alloc | apply pw_below_drewN | apply below_drew1 | refine below_set ?_ GE515.out) | exact HB.out))⟩)
                   · skip
                     refine Kd.N_lit_step k44 _ 44 ?hg (N' := 52) ?hd (xs := ([(⟨(⟨a1_0, a1_1⟩ : S24), a1_2, (⟨a1_3, a1_4⟩ : S40), (⟨a1_5, a1_6⟩ : S40), (⟨a1_7, (⟨a1_8, a1_9⟩ : S26), (⟨a1_10, a1_11⟩ : S28), a1_12, l1_13, l1_14, a1_15⟩ : S32), a1_16, (⟨a1_17, a1_18, a1_19, a1_20, a1_21, a1_22, a1_23⟩ : S42), a1_24⟩ : S44)] : List (S44))) (inner := [.int .i64 a1_0, .int .i64 a1_1, .int .i64 a1_2, .int .i64 a1_3, .int .i64 a1_4, .int .i64 a1_5, .int .i64 a1_6, .int .i64 a1_7, .int .i64 a1_8, .int .i64 a1_9, .int .i64 a1_10, .int .i64 a1_11, .int .i64 a1_12, .slice A1_13 l1_13.length c1_13, .slice A1_14 l1_14.length c1_14, .bool a1_15, .int .i64 a1_16, .int .i64 a1_17, .int .i64 a1_18, .int .i64 a1_19, .int .i64 a1_20, .int .i64 a1_21, .int .i64 a1_22, .int .i64 a1_23, .bool a1_24]) (ok := (fun k_ => ((P1_13_ k_ ∨ P1_14_ k_) ∨ w.heap.size ≤ k_) ∧ k_ ≠ gb515)) (okp := (fun k_ => ((P1_13_ k_ ∨ P1_14_ k_) ∨ w.heap.size ≤ k_) ∧ k_ ≠ gb515)) ?hr ?hp (fun _ hk => hk) ((show ∀ k_, w46.heap.size ≤ k_ → (fun k_ => ((P1_13_ k_ ∨ P1_14_ k_) ∨ w.heap.size ≤ k_) ∧ k_ ≠ gb515) k_ from fun k_ hk => ⟨(.inr (Nat.le_trans (below_size (by repeat (first | (with_reducible first | exact HB.out | apply below_alloc | apply pw_below_drewN | apply below_drew1 | refine below_set ?_ GE515.out) | exact HB.out))) hk)), Kd.freshB (g := gb515) (o := .cells #[.int .i64 a1_0, .int .i64 a1_1, .int .i64 a1_2, .int .i64 a1_3, .int .i64 a1_4, .int .i64 a1_5, .int .i64 a1_6, .int .i64 a1_7, .int .i64 a1_8, .int .i64 a1_9, .int .i64 a1_10, .int .i64 a1_11, .int .i64 a1_12, .slice A1_13 l1_13.length c1_13, .slice A1_14 l1_14.length c1_14, .bool a1_15, .int .i64 a1_16, .int .i64 a1_17, .int .i64 a1_18, .int .i64 a1_19, .int .i64 a1_20, .int .i64 a1_21, .int .i64 a1_22, .int .i64 a1_23, .bool a1_24] 44 (0, 0)) (kb_ BK515.out) k_ hk⟩) _ (Nat.le_refl _)) (Below.refl _ _) (Nat.le_refl _) (by simp) ?_; (case hd => rfl); (case hg => rfl); (case hr => first | (go_simp; done) | (go_simp; rfl)); (case hp => exact (Reps.front (show Kd.FK k44 _ _ (⟨(⟨a1_0, a1_1⟩ : S24), a1_2, (⟨a1_3, a1_4⟩ : S40), (⟨a1_5, a1_6⟩ : S40), (⟨a1_7, (⟨a1_8, a1_9⟩ : S26), (⟨a1_10, a1_11⟩ : S28), a1_12, l1_13, l1_14, a1_15⟩ : S32), a1_16, (⟨a1_17, a1_18, a1_19, a1_20, a1_21, a1_22, a1_23⟩ : S42), a1_24⟩ : S44) [.int .i64 a1_0, .int .i64 a1_1, .int .i64 a1_2, .int .i64 a1_3, .int .i64 a1_4, .int .i64 a1_5, .int .i64 a1_6, .int .i64 a1_7, .int .i64 a1_8, .int .i64 a1_9, .int .i64 a1_10, .int .i64 a1_11, .int .i64 a1_12, .slice A1_13 l1_13.length c1_13, .slice A1_14 l1_14.length c1_14, .bool a1_15, .int .i64 a1_16, .int .i64 a1_17, .int .i64 a1_18, .int .i64 a1_19, .int .i64 a1_20, .int .i64 a1_21, .int .i64 a1_22, .int .i64 a1_23, .bool a1_24] from (k44_mkF _ _ (⟨(⟨a1_0, a1_1⟩ : S24), a1_2, (⟨a1_3, a1_4⟩ : S40), (⟨a1_5, a1_6⟩ : S40), (⟨a1_7, (⟨a1_8, a1_9⟩ : S26), (⟨a1_10, a1_11⟩ : S28), a1_12, l1_13, l1_14, a1_15⟩ : S32), a1_16, (⟨a1_17, a1_18, a1_19, a1_20, a1_21, a1_22, a1_23⟩ : S42), a1_24⟩ : S44) (Kd.V_reads' (Kd.V_mono (ok' := (fun k_ => ((P1_13_ k_ ∨ P1_14_ k_) ∨ w.heap.size ≤ k_) ∧ k_ ≠ gb515)) (HO_516013.out) (fun k_ hk => ⟨hk.1, hk.2⟩))).2.1 (Kd.V_F (Kd.V_mono (ok' := (fun k_ => ((P1_13_ k_ ∨ P1_14_ k_) ∨ w.heap.size ≤ k_) ∧ k_ ≠ gb515)) (HO_516013.out) (fun k_ hk => ⟨hk.1, hk.2⟩))) (Kd.V_reads' (Kd.V_mono (ok' := (fun k_ => ((P1_13_ k_ ∨ P1_14_ k_) ∨ w.heap.size ≤ k_) ∧ k_ ≠ gb515)) (HO_516014.out) (fun k_ hk => ⟨hk.1, hk.2⟩))).2.1 (Kd.V_F (Kd.V_mono (ok' := (fun k_ => ((P1_13_ k_ ∨ P1_14_ k_) ∨ w.heap.size ≤ k_) ∧ k_ ≠ gb515)) (HO_516014.out) (fun k_ hk => ⟨hk.1, hk.2⟩))))) rfl (Reps.none _ _) rfl))
                     intro v529 w47 ho48 hb hg_ hnew_
                     clear hg_ hnew_
                     (first | rw [← Ny528.out] at ho48 | (simp only [Int.reduceToNat] at ho48; rw [← Ny528.out] at ho48))
                     have n0_ := Aside0.mk (Kd.V_elder' (kv_ HO_516013.out) (Kd.N_base ho48) hb)
                     have n1_ := Aside0.mk (Kd.V_elder' (kv_ HO_516014.out) (Kd.N_base ho48) hb)
                     have n2_ := Aside0.mk (Kd.N_lower ho48 (below_size (by repeat (first | (with_reducible first | exact HB.out | apply below_alloc | apply pw_below_drewN | apply below_drew1 | refine below_set ?_ GE515.out) | exact HB.out))))
                     have n3_ := Aside0.mk (blk_below (kb_ BK515.out) hb)
                     have n4_ := Aside0.mk (below_step (by repeat (first | (with_reducible first | exact HB.out | apply below_alloc | apply pw_below_drewN | apply below_drew1 | refine below_set ?_ GE515.out) | exact HB.out)) hb)
                     clear HO_516013
                     clear HO_516014
                     clear BK515
                     clear HB
                     have HO_516013 := n0_
                     have HO_516014 := n1_
                     have HO530 := n2_
                     have BK515 := n3_
                     have HB := n4_
                     clear n0_ n1_ n2_ n3_ n4_
                     clear hb ho48
                     refine hK.out _ _ BK515.out (fun hHeld => ?_)
                     clear hK K
                     refine norm_ (a' := ?_) ?_ ?_
                     rotate_left
                     · show Act.put _ (some 52) _ = _
                       simp only [Act.put, List.setIfInBounds_toArray, List.set_cons_zero, List.set_cons_succ, i64_w, i32_w]
                       rfl
                     refine one_ (i := 1) (N := some 50) #[true, true, true, true, false, true, false, false] rfl rfl (one_of HT_.out (by kernel_rfl)) (by decide) (fun K hK => ?_)
                     refine goes_ Try.func13 (by kernel_rfl) rfl #[.slice A0 l0.length c0] (by rfl) rfl rfl (by (try simp only [List.map_toArray, List.map_cons, List.map_nil]); first | done | rfl | (simp only [List.length_drop, List.length_take]; rfl)) ?_
                     with_reducible refine (althinglaw11_own.calls k2 _ _ l0 t525 _ ?side1 ?side2 A39.out).mono ?_
                     (case side1 => exact kc_ (Kd.C_below HR0.out HB.out))
                     (case side2 => exact HC0.out)
                     rintro e w49 ⟨v526, rfl, ho0, hb⟩
                     refine ⟨_, rfl, ?_⟩
                     have n0_ := Aside0.mk (Kd.V_elder' (kv_ HO_516013.out) (Kd.S_base ho0) hb)
                     have n1_ := Aside0.mk (Kd.V_elder' (kv_ HO_516014.out) (Kd.S_base ho0) hb)
                     have n2_ := Aside0.mk (Kd.N_elder' (kn_ HO530.out) (Kd.S_base ho0) hb)
                     have n3_ := Aside0.mk (Kd.N_lower (Kd.N_mono (ok' := fun k_ => ((P1_13_ k_ ∨ P1_14_ k_) ∨ w.heap.size ≤ k_) ∧ some k_ ≠ (v529 : Value).ownBlock ∧ k_ ≠ gb515) (Kd.S_N (Kd.S_bound ho0)) (fun k_ hk_ => ⟨(.inr (Nat.le_trans (below_size (by repeat (first | (with_reducible first | exact HB.out | apply below_alloc | apply pw_below_drewN | apply below_drew1 | refine below_set ?_ GE515.out) | exact HB.out))) hk_.2.1)), (Kd.fresh' (Kd.N_lt (kn_ HO530.out)) k_ hk_.2.1), (Kd.freshB (g := gb515) (o := .cells #[.int .i64 a1_0, .int .i64 a1_1, .int .i64 a1_2, .int .i64 a1_3, .int .i64 a1_4, .int .i64 a1_5, .int .i64 a1_6, .int .i64 a1_7, .int .i64 a1_8, .int .i64 a1_9, .int .i64 a1_10, .int .i64 a1_11, .int .i64 a1_12, .slice A1_13 l1_13.length c1_13, .slice A1_14 l1_14.length c1_14, .bool a1_15, .int .i64 a1_16, .int .i64 a1_17, .int .i64 a1_18, .int .i64 a1_19, .int .i64 a1_20, .int .i64 a1_21, .int .i64 a1_22, .int .i64 a1_23, .bool a1_24] 44 (0, 0)) (kb_ BK515.out) k_ hk_.2.1)⟩)) (below_size (by repeat (first | (with_reducible first | exact HB.out | apply below_alloc | apply pw_below_drewN | apply below_drew1 | refine below_set ?_ GE515.out) | exact HB.out))))
                     have n4_ := Aside0.mk (blk_below (kb_ BK515.out) hb)
                     have n5_ := Aside0.mk (below_step (by repeat (first | (with_reducible first | exact HB.out | apply below_alloc | apply pw_below_drewN | apply below_drew1 | refine below_set ?_ GE515.out) | exact HB.out)) hb)
                     clear HO_516013
                     clear HO_516014
                     clear HO530
                     clear BK515
                     clear HB
                     have HO_516013 := n0_
                     have HO_516014 := n1_
                     have HO530 := n2_
                     have HO527 := n3_
                     have BK515 := n4_
                     have HB := n5_
                     clear n0_ n1_ n2_ n3_ n4_ n5_
                     (try clear hb)
                     (try clear hb2)
                     (try clear hk)
                     (try clear hi)
                     (try clear ho0)
                     refine hK.out _ _ BK515.out (fun hHeld => ?_)
                     clear hK K
                     refine norm_ (a' := ?_) ?_ ?_
                     rotate_left
                     · show Act.put _ (some 50) _ = _
                       simp only [Act.put, List.setIfInBounds_toArray, List.set_cons_zero, List.set_cons_succ, i64_w, i32_w]
                       rfl
                     exact norm_ (by simp only [putAll, Act.put, List.setIfInBounds_toArray, List.set_cons_zero, List.set_cons_succ]) (hCont (v526, v529) _ ⟨hHeld, (kn_ HO527.out), (by (with_reducible repeat (first | apply Kd.N_alloc | apply Kd.N_drewN | apply Kd.N_drew)); exact Kd.N_mono HO530.out (fun _ hk => ⟨hk.1.1, ⟨hk.2, hk.1.2⟩⟩)), (by (with_reducible repeat (first | apply Kd.V_alloc | apply Kd.V_drewN | apply Kd.V_drew)); exact Kd.V_mono HO_516013.out (fun _ hk => ⟨hk.1.1.1, ⟨hk.2, ⟨hk.1.2, hk.1.1.2⟩⟩⟩)), (by (with_reducible repeat (first | apply Kd.V_alloc | apply Kd.V_drewN | apply Kd.V_drew)); exact Kd.V_mono HO_516014.out (fun _ hk => ⟨hk.1.1.1, ⟨hk.2, ⟨hk.1.2, hk.1.1.2⟩⟩⟩)), (kb_ BK515.out), (by repeat (first | (with_reducible first | exact HB.out | apply below_alloc | apply pw_below_drewN | apply below_drew1 | refine below_set ?_ GE515.out) | exact HB.out))⟩)
                 rintro ⟨v526, v529⟩ w50 ⟨hS_, h0_, h1_, h2_, h3_, h4_, h5_⟩
                 have n0_ : Aside0 (Kd.N k44 44 w50 w.heap.size (fun k_ => ((P1_13_ k_ ∨ P1_14_ k_) ∨ w.heap.size ≤ k_) ∧ some k_ ≠ (v529 : Value).ownBlock ∧ k_ ≠ gb515) v526 t525) := ⟨h0_⟩
                 have n1_ : Aside0 (Kd.N k44 44 w50 w.heap.size (fun k_ => ((P1_13_ k_ ∨ P1_14_ k_) ∨ w.heap.size ≤ k_) ∧ some k_ ≠ (v526 : Value).ownBlock ∧ k_ ≠ gb515) v529 y528) := ⟨h1_⟩
                 have n2_ : Aside0 (Kd.V k61 61 w50 w.heap.size (fun k_ => ((P1_13_ k_ ∨ P1_14_ k_) ∨ w.heap.size ≤ k_) ∧ some k_ ≠ (v526 : Value).ownBlock ∧ some k_ ≠ (v529 : Value).ownBlock ∧ k_ ≠ gb515) (.slice A1_13 l1_13.length c1_13) l1_13) := ⟨h2_⟩
                 have n3_ : Aside0 (Kd.V k46 46 w50 w.heap.size (fun k_ => ((P1_13_ k_ ∨ P1_14_ k_) ∨ w.heap.size ≤ k_) ∧ some k_ ≠ (v526 : Value).ownBlock ∧ some k_ ≠ (v529 : Value).ownBlock ∧ k_ ≠ gb515) (.slice A1_14 l1_14.length c1_14) l1_14) := ⟨h3_⟩
                 have n4_ : Aside0 (w50.heap[gb515]? = some (.cells #[.int .i64 a1_0, .int .i64 a1_1, .int .i64 a1_2, .int .i64 a1_3, .int .i64 a1_4, .int .i64 a1_5, .int .i64 a1_6, .int .i64 a1_7, .int .i64 a1_8, .int .i64 a1_9, .int .i64 a1_10, .int .i64 a1_11, .int .i64 a1_12, .slice A1_13 l1_13.length c1_13, .slice A1_14 l1_14.length c1_14, .bool a1_15, .int .i64 a1_16, .int .i64 a1_17, .int .i64 a1_18, .int .i64 a1_19, .int .i64 a1_20, .int .i64 a1_21, .int .i64 a1_22, .int .i64 a1_23, .bool a1_24] 44 (0, 0))) := ⟨h4_⟩
                 have n5_ : Aside0 (Below w.heap.size w w50) := ⟨h5_⟩
                 clear HO_516013
                 clear HO_516014
                 clear BK515
                 clear HB
                 clear h0_ h1_ h2_ h3_ h4_ h5_
                 have HO527 := n0_
                 have HO530 := n1_
                 have HO_516013 := n2_
                 have HO_516014 := n3_
                 have BK515 := n4_
                 have HB := n5_
                 clear n0_ n1_ n2_ n3_ n4_ n5_
                 have hHeld : w50.heap[gb515]? = some (.cells #[.int .i64 a1_0, .int .i64 a1_1, .int .i64 a1_2, .int .i64 a1_3, .int .i64 a1_4, .int .i64 a1_5, .int .i64 a1_6, .int .i64 a1_7, .int .i64 a1_8, .int .i64 a1_9, .int .i64 a1_10, .int .i64 a1_11, .int .i64 a1_12, .slice A1_13 l1_13.length c1_13, .slice A1_14 l1_14.length c1_14, .bool a1_15, .int .i64 a1_16, .int .i64 a1_17, .int .i64 a1_18, .int .i64 a1_19, .int .i64 a1_20, .int .i64 a1_21, .int .i64 a1_22, .int .i64 a1_23, .bool a1_24] 44 (0, 0)) := hS_
                 obtain ⟨Ao52, co52, eo52⟩ := Kd.N_slice HO530.out
                 (first | subst eo52 | (injection eo52 with f1_ f2_ f3_; have f4_ := f1_.symm; have f5_ := f3_.symm; clear f1_ f2_ f3_; subst f4_; subst f5_))
                 refine norm_ (a' := ?_) ?_ ?_
                 rotate_left
                 · simp only [putAll, Act.put, List.setIfInBounds_toArray, List.set_cons_zero, List.set_cons_succ]
                   rfl
                 refine one_ (i := 4) (N := some 53) #[true, true, true, true, true, true, false, false] rfl rfl (one_of HT_.out (by kernel_rfl)) (by decide) (fun K hK => ?_)
                 refine Kd.N_append_rows_step k44 (w0 := w) w.heap.size (by rfl) (.tmp 50) (.tmp 52) 22 44 (.agg #[(.int .i64 0), (.int .i64 0), (.int .i64 0), (.int .i64 0), (.int .i64 0), (.int .i64 0), (.int .i64 0), (.int .i64 0), (.int .i64 0), (.int .i64 0), (.int .i64 0), (.int .i64 0), (.int .i64 0), (.slice none 0 0), (.slice none 0 0), (.bool false), (.int .i64 0), (.int .i64 0), (.int .i64 0), (.int .i64 0), (.int .i64 0), (.int .i64 0), (.int .i64 0), (.int .i64 0), (.bool false)]) 232 rfl Try.underlying22 info44 rfl (by decide) (by omega) v526 t525 y528 _ _ _ (fun k_ => ((P1_13_ k_ ∨ P1_14_ k_) ∨ w.heap.size ≤ k_) ∧ k_ ≠ gb515) (fun k_ => ((fun k_ => ((P1_13_ k_ ∨ P1_14_ k_) ∨ w.heap.size ≤ k_) ∧ k_ ≠ gb515)) k_ ∧ some k_ ≠ (v526 : Value).ownBlock) rfl rfl ?aO ?aR (fun _ hk => hk) ?aF ?aB ?aS ?aL ?_
                 (case aR => exact (by skip; exact Kd.N_F (Kd.N_mono (ok' := (fun k_ => ((fun k_ => ((P1_13_ k_ ∨ P1_14_ k_) ∨ w.heap.size ≤ k_) ∧ k_ ≠ gb515)) k_ ∧ some k_ ≠ (v526 : Value).ownBlock)) (HO530.out) (fun k_ hk => ⟨⟨hk.1, hk.2.2⟩, hk.2.1⟩))))
                 (case aB => exact (by repeat (first | (with_reducible first | exact HB.out | apply below_alloc | apply pw_below_drewN | apply below_drew1 | refine below_set ?_ GE515.out) | exact HB.out)))
                 (case aF => exact (fun k_ hk => ⟨(.inr (Nat.le_trans (below_size (by repeat (first | (with_reducible first | exact HB.out | apply below_alloc | apply pw_below_drewN | apply below_drew1 | refine below_set ?_ GE515.out) | exact HB.out))) hk)), Kd.freshB (g := gb515) (o := .cells #[.int .i64 a1_0, .int .i64 a1_1, .int .i64 a1_2, .int .i64 a1_3, .int .i64 a1_4, .int .i64 a1_5, .int .i64 a1_6, .int .i64 a1_7, .int .i64 a1_8, .int .i64 a1_9, .int .i64 a1_10, .int .i64 a1_11, .int .i64 a1_12, .slice A1_13 l1_13.length c1_13, .slice A1_14 l1_14.length c1_14, .bool a1_15, .int .i64 a1_16, .int .i64 a1_17, .int .i64 a1_18, .int .i64 a1_19, .int .i64 a1_20, .int .i64 a1_21, .int .i64 a1_22, .int .i64 a1_23, .bool a1_24] 44 (0, 0)) (kb_ BK515.out) k_ hk⟩))
                 (case aO => exact (by (with_reducible repeat (first | apply Kd.N_alloc | apply Kd.N_drewN | apply Kd.N_drew)); exact Kd.N_mono HO527.out (fun _ hk => ⟨hk.1, hk.2.2⟩)))
                 (case aS => exact (below_size (by repeat (first | (with_reducible first | exact HB.out | apply below_alloc | apply pw_below_drewN | apply below_drew1 | refine below_set ?_ GE515.out) | exact HB.out))))
                 (case aL => have := LMc40.out; omega)
                 intro v532 w51 ho hb hg hat
                 rw [← Ny531.out] at ho
                 have n0_ := Aside0.mk (Kd.V_afterv (ok := (fun k_ => ((P1_13_ k_ ∨ P1_14_ k_) ∨ w.heap.size ≤ k_) ∧ some k_ ≠ (.slice Ao52 y528.length co52 : Value).ownBlock ∧ k_ ≠ gb515)) (by (with_reducible repeat (first | apply Kd.V_alloc | apply Kd.V_drewN | apply Kd.V_drew)); exact Kd.V_mono HO_516013.out (fun _ hk => ⟨⟨hk.1, ⟨hk.2.2.1, hk.2.2.2⟩⟩, hk.2.1⟩)) hg hat)
                 have n1_ := Aside0.mk (Kd.V_afterv (ok := (fun k_ => ((P1_13_ k_ ∨ P1_14_ k_) ∨ w.heap.size ≤ k_) ∧ some k_ ≠ (.slice Ao52 y528.length co52 : Value).ownBlock ∧ k_ ≠ gb515)) (by (with_reducible repeat (first | apply Kd.V_alloc | apply Kd.V_drewN | apply Kd.V_drew)); exact Kd.V_mono HO_516014.out (fun _ hk => ⟨⟨hk.1, ⟨hk.2.2.1, hk.2.2.2⟩⟩, hk.2.1⟩)) hg hat)
                 have n2_ := Aside0.mk (blk_grown (kb_ BK515.out) hg (Kd.N_away HO527.out (fun _ hk => hk.2.2)))
                 have n3_ := Aside0.mk (Kd.N_afterv (ok := (fun k_ => ((P1_13_ k_ ∨ P1_14_ k_) ∨ w.heap.size ≤ k_) ∧ k_ ≠ gb515)) (by (with_reducible repeat (first | apply Kd.N_alloc | apply Kd.N_drewN | apply Kd.N_drew)); exact Kd.N_mono HO530.out (fun _ hk => ⟨⟨hk.1, hk.2.2⟩, hk.2.1⟩)) hg hat)
                 have n4_ := Aside0.mk (hb)
                 have n5_ := Aside0.mk (ho)
                 clear HO_516013
                 clear HO_516014
                 clear BK515
                 clear HO530
                 clear HB
                 clear HO527
                 have HO_516013 := n0_
                 have HO_516014 := n1_
                 have BK515 := n2_
                 have HO530 := n3_
                 have HB := n4_
                 have HO533 := n5_
                 clear n0_ n1_ n2_ n3_ n4_ n5_
                 clear ho hb hg hat
                 obtain ⟨Ao53, co53, eo53⟩ := Kd.N_slice HO533.out
                 (first | subst eo53 | (injection eo53 with f1_ f2_ f3_; have f4_ := f1_.symm; have f5_ := f3_.symm; clear f1_ f2_ f3_; subst f4_; subst f5_))
                 refine hK.out _ _ BK515.out (fun hHeld => ?_)
                 clear hK K
                 refine norm_ (a' := ?_) ?_ ?_
                 rotate_left
                 · show Act.put _ (some 53) _ = _
                   simp only [Act.put, List.setIfInBounds_toArray, List.set_cons_zero, List.set_cons_succ, i64_w, i32_w]
                   rfl
                 refine one_ (i := 6) (N := some 55) #[true, true, true, true, true, true, true, false] rfl rfl (one_of HT_.out (by kernel_rfl)) (by decide) (fun K hK => ?_)
                 refine goes_ Try.func19 (by kernel_rfl) rfl #[.slice Ao53 y531.length co53, .int .i64 a2] (by rfl) rfl rfl (by (try simp only [List.map_toArray, List.map_cons, List.map_nil]); first | done | rfl | (simp only [List.length_drop, List.length_take]; rfl)) ?_
                 with_reducible refine (index_Slot.calls k2 _ _ y531 a2 t534 _ ?side1 ?side2 A41.out).mono ?_
                 (case side1 => repeat (first | exact (Kd.N_reads' HO533.out).2.2 | (with_reducible refine Kd.C_alloc ?_ _) | (with_reducible refine Kd.C_drewN ?_ _) | (with_reducible refine Kd.C_drew ?_)))
                 (case side2 => exact (Kd.N_reads' HO533.out).2.1)
                 rintro e w54 ⟨rfl, hb⟩
                 refine ⟨_, rfl, ?_⟩
                 have n0_ := Aside0.mk (Kd.V_below (kv_ HO_516013.out) hb)
                 have n1_ := Aside0.mk (Kd.V_below (kv_ HO_516014.out) hb)
                 have n2_ := Aside0.mk (Kd.N_below (kn_ HO530.out) hb)
                 have n3_ := Aside0.mk (Kd.N_below (kn_ HO533.out) hb)
                 have n4_ := Aside0.mk (blk_below (kb_ BK515.out) hb)
                 have n5_ := Aside0.mk (below_step (by repeat (first | (with_reducible first | exact HB.out | apply below_alloc | apply pw_below_drewN | apply below_drew1 | refine below_set ?_ GE515.out) | exact HB.out)) hb)
                 clear HO_516013
                 clear HO_516014
                 clear HO530
                 clear HO533
                 clear BK515
                 clear HB
                 have HO_516013 := n0_
                 have HO_516014 := n1_
                 have HO530 := n2_
                 have HO533 := n3_
                 have BK515 := n4_
                 have HB := n5_
                 clear n0_ n1_ n2_ n3_ n4_ n5_
                 (try clear hb)
                 (try clear hb2)
                 (try clear hk)
                 (try clear hi)
                 refine hK.out _ _ BK515.out (fun hHeld => ?_)
                 clear hK K
                 refine norm_ (a' := ?_) ?_ ?_
                 rotate_left
                 · show Act.put _ (some 55) _ = _
                   simp only [Act.put, List.setIfInBounds_toArray, List.set_cons_zero, List.set_cons_succ, i64_w, i32_w]
                   rfl
                 refine pure_ (i := 7) (N := some 10) (v := ?_) (a' := ?_) #[true, true, true, true, true, true, true, true] rfl rfl (any_of HT_.out (by kernel_rfl)) (fun _ _ _ h => h) (Or.inl ⟨by rfl, ?_⟩) ?_ ?_
                 rotate_left
                 · intro w'
                   go_simp
                   with_reducible rfl
                 rotate_left
                 · simp only [Act.put, List.setIfInBounds_toArray, List.set_cons_zero, List.set_cons_succ, i64_w, i32_w]
                   rfl
                 refine done_ (done_of HT_.out (by kernel_rfl)) ?_
                 refine blk25_ BK515.out fun hcz55_0 hcz55_1 hcz55_2 hcz55_3 hcz55_4 hcz55_5 hcz55_6 hcz55_7 hcz55_8 hcz55_9 hcz55_10 hcz55_11 hcz55_12 hcz55_13 hcz55_14 hcz55_15 hcz55_16 hcz55_17 hcz55_18 hcz55_19 hcz55_20 hcz55_21 hcz55_22 hcz55_23 hcz55_24 hfz55_0 hfz55_1 hfz55_2 hfz55_3 hfz55_4 hfz55_5 hfz55_6 hfz55_7 hfz55_8 hfz55_9 hfz55_10 hfz55_11 hfz55_12 hfz55_13 hfz55_14 hfz55_15 hfz55_16 hfz55_17 hfz55_18 hfz55_19 hfz55_20 hfz55_21 hfz55_22 hfz55_23 hfz55_24 => ?_
                 try go_wp2_with (first | ((with_reducible refine gate_dst (N := 76) rfl ?_); (try (refine gate_guard (by rfl) ?_; dsimp only)); (try (refine gate_guard (by rfl) ?_; dsimp only)); refine goesL_ (some 76) rfl rfl Try.func12 (by kernel_rfl) rfl #[] rfl (by (try simp only [List.map_toArray, List.map_cons, List.map_nil]); first | done | rfl) ?_; (with_reducible refine (althinglaw11_awake.calls k2  t535 _ A45.out).mono ?_); rintro e w56 ⟨rfl, hb⟩; refine ⟨_, rfl, ?_⟩; have n0_ := Aside0.mk (Kd.V_below (kv_ HO_516013.out) hb); have n1_ := Aside0.mk (Kd.V_below (kv_ HO_516014.out) hb); have n2_ := Aside0.mk (Kd.N_below (kn_ HO530.out) hb); have n3_ := Aside0.mk (Kd.N_below (kn_ HO533.out) hb); have n4_ := Aside0.mk (blk_below (kb_ BK515.out) hb); have n5_ := Aside0.mk (below_step (by repeat (first | (with_reducible first | exact HB.out | apply below_alloc | apply pw_below_drewN | apply below_drew1 | refine below_set ?_ GE515.out) | exact HB.out)) hb); clear HO_516013; clear HO_516014; clear HO530; clear HO533; clear BK515; clear HB; have HO_516013 := n0_; have HO_516014 := n1_; have HO530 := n2_; have HO533 := n3_; have BK515 := n4_; have HB := n5_; clear n0_ n1_ n2_ n3_ n4_ n5_; (try clear hb); (try clear hb2); (try clear hk); (try clear hi)))
                 go_ret
                 exact ⟨by first | rfl | (simp [errW_none, errW_some] <;> rfl) | (simp [*, errW_none, errW_some] <;> rfl), by repeat (first | (with_reducible first | exact HB.out | apply below_alloc | apply pw_below_drewN | apply below_drew1 | refine below_set ?_ GE515.out) | exact HB.out)⟩
               · rw [if_neg c44] at H
                 have c44b0 : (a1_0 == a2) = false := beq_eq_false_iff_ne.mpr c44
                 have c44b1 : (a1_0 != a2) = true := bne_iff_ne.mpr c44
                 by_cases c57 : t534 = t522
                 · rw [if_pos c57] at H
                   have c57b0 : (t534 == t522) = true := beq_iff_eq.mpr c57
                   have c57b1 : (t534 != t522) = false := bne_eq_false_iff_eq.mpr c57
                   clear c57
                   obtain ⟨t536, A58, H⟩ := bs_ H
                   obtain rfl := Option.some.inj H
                   try go_wp2
                   have n0_ := Aside0.mk (Kd.V_drew HO_516013.out)
                   have n1_ := Aside0.mk (Kd.V_drew HO_516014.out)
                   have n2_ := Aside0.mk (blk_drew BK515.out)
                   have n3_ := Aside0.mk (below_drew1 HB.out)
                   clear HO_516013
                   clear HO_516014
                   clear BK515
                   clear HB
                   have HO_516013 := n0_
                   have HO_516014 := n1_
                   have BK515 := n2_
                   have HB := n3_
                   clear n0_ n1_ n2_ n3_
                   refine start_ (n := 8) (S := fun w' => w'.heap[gb515]? = some (.cells #[.int .i64 a1_0, .int .i64 a1_1, .int .i64 a1_2, .int .i64 a1_3, .int .i64 a1_4, .int .i64 a1_5, .int .i64 a1_6, .int .i64 a1_7, .int .i64 a1_8, .int .i64 a1_9, .int .i64 a1_10, .int .i64 a1_11, .int .i64 a1_12, .slice A1_13 l1_13.length c1_13, .slice A1_14 l1_14.length c1_14, .bool a1_15, .int .i64 a1_16, .int .i64 a1_17, .int .i64 a1_18, .int .i64 a1_19, .int .i64 a1_20, .int .i64 a1_21, .int .i64 a1_22, .int .i64 a1_23, .bool a1_24] 44 (0, 0))) (ds := []) #[false, false, false, false, false, false, false, false] (by kernel_rfl) rfl rfl BK515.out (fun hHeld => ?_); refine with_tabW althinglaw11_IndexSlots.tab10 althinglaw11_IndexSlots.bits10 (fun HT_ HW_ => ?_)
                   generalize wr.drew = w59 at HO_516013 HO_516014 BK515 HB hHeld ⊢
                   refine pure_ (i := 0) (N := some 49) (v := ?_) (a' := ?_) #[true, false, false, false, false, false, false, false] rfl rfl (any_of HT_.out (by kernel_rfl)) (fun _ _ _ h => h) (Or.inl ⟨by rfl, ?_⟩) ?_ ?_
                   rotate_left
                   · intro w'
                     go_simp
                     with_reducible rfl
                   rotate_left
                   · simp only [Act.put, List.setIfInBounds_toArray, List.set_cons_zero, List.set_cons_succ, i64_w, i32_w]
                     rfl
                   refine pure_ (i := 5) (N := some 54) (v := ?_) (a' := ?_) #[true, false, false, false, false, true, false, false] rfl rfl (any_of HT_.out (by kernel_rfl)) (fun _ _ _ h => h) (Or.inl ⟨by rfl, ?_⟩) ?_ ?_
                   rotate_left
                   · intro w'
                     go_simp
                     with_reducible rfl
                   rotate_left
                   · simp only [Act.put, List.setIfInBounds_toArray, List.set_cons_zero, List.set_cons_succ, i64_w, i32_w]
                     rfl
                   refine take_ (i := 2) (N := some 51) (v := ?_) (a' := ?_) #[true, false, true, false, false, true, false, false] rfl rfl (take_ofW HT_.out HW_.out (by kernel_rfl)) (fun _ _ _ h => h) (Or.inl ⟨by rfl, ?_⟩) hHeld ?_ ?_
                   rotate_left
                   · rintro w' s0
                     first | (refine blk_yield2 (T := 44) s0 ?_ ⟨_, Try.underlying44, rfl⟩ ?_; exact ⟨rfl, rfl⟩; kernel_rfl) | (refine blk25_ s0 fun _ _ _ _ _ _ _ _ _ _ _ _ _ _ _ _ _ _ _ _ _ _ _ _ _ _ _ _ _ _ _ _ _ _ _ _ _ _ _ _ _ _ _ _ _ _ _ _ _ _ => ?_; go_simp; with_reducible rfl)
                   rotate_left
                   · simp only [Act.put, List.setIfInBounds_toArray, List.set_cons_zero, List.set_cons_succ, i64_w, i32_w]
                     rfl
                   refine join_ (σ := Value × Value) 3 #[true, true, true, true, false, true, false, false] (fun s_ => [(50, s_.1), (52, s_.2)]) (fun s_ w' => (w'.heap[gb515]? = some (.cells #[.int .i64 a1_0, .int .i64 a1_1, .int .i64 a1_2, .int .i64 a1_3, .int .i64 a1_4, .int .i64 a1_5, .int .i64 a1_6, .int .i64 a1_7, .int .i64 a1_8, .int .i64 a1_9, .int .i64 a1_10, .int .i64 a1_11, .int .i64 a1_12, .slice A1_13 l1_13.length c1_13, .slice A1_14 l1_14.length c1_14, .bool a1_15, .int .i64 a1_16, .int .i64 a1_17, .int .i64 a1_18, .int .i64 a1_19, .int .i64 a1_20, .int .i64 a1_21, .int .i64 a1_22, .int .i64 a1_23, .bool a1_24] 44 (0, 0))) ∧ (Kd.N k44 44 w' w.heap.size (fun k_ => ((P1_13_ k_ ∨ P1_14_ k_) ∨ w.heap.size ≤ k_) ∧ some k_ ≠ (s_.2 : Value).ownBlock ∧ k_ ≠ gb515) s_.1 t525) ∧ (Kd.N k44 44 w' w.heap.size (fun k_ => ((P1_13_ k_ ∨ P1_14_ k_) ∨ w.heap.size ≤ k_) ∧ some k_ ≠ (s_.1 : Value).ownBlock ∧ k_ ≠ gb515) s_.2 y528) ∧ (Kd.V k61 61 w' w.heap.size (fun k_ => ((P1_13_ k_ ∨ P1_14_ k_) ∨ w.heap.size ≤ k_) ∧ some k_ ≠ (s_.1 : Value).ownBlock ∧ some k_ ≠ (s_.2 : Value).ownBlock ∧ k_ ≠ gb515) (.slice A1_13 l1_13.length c1_13) l1_13) ∧ (Kd.V k46 46 w' w.heap.size (fun k_ => ((P1_13_ k_ ∨ P1_14_ k_) ∨ w.heap.size ≤ k_) ∧ some k_ ≠ (s_.1 : Value).ownBlock ∧ some k_ ≠ (s_.2 : Value).ownBlock ∧ k_ ≠ gb515) (.slice A1_14 l1_14.length c1_14) l1_14) ∧ (w'.heap[gb515]? = some (.cells #[.int .i64 a1_0, .int .i64 a1_1, .int .i64 a1_2, .int .i64 a1_3, .int .i64 a1_4, .int .i64 a1_5, .int .i64 a1_6, .int .i64 a1_7, .int .i64 a1_8, .int .i64 a1_9, .int .i64 a1_10, .int .i64 a1_11, .int .i64 a1_12, .slice A1_13 l1_13.length c1_13, .slice A1_14 l1_14.length c1_14, .bool a1_15, .int .i64 a1_16, .int .i64 a1_17, .int .i64 a1_18, .int .i64 a1_19, .int .i64 a1_20, .int .i64 a1_21, .int .i64 a1_22, .int .i64 a1_23, .bool a1_24] 44 (0, 0))) ∧ (Below w.heap.size w w')) ?_ ?_
                   rotate_left
                   · intro hCont
                     refine two_ (i := 1) (j := 3) (Ni := some 50) (Nj := some 52) #[true, true, true, false, false, true, false, false] #[true, false, true, true, false, true, false, false] rfl rfl rfl rfl (two_of HT_.out (by kernel_rfl)) (by decide) (by decide) (fun K hK => ?_) (fun K hK => ?_)
                     · skip
                       refine goes_ Try.func13 (by kernel_rfl) rfl #[.slice A0 l0.length c0] (by rfl) rfl rfl (by (try simp only [List.map_toArray, List.map_cons, List.map_nil]); first | done | rfl | (simp only [List.length_drop, List.length_take]; rfl)) ?_
                       with_reducible refine (althinglaw11_own.calls k2 _ _ l0 t525 _ ?side1 ?side2 A39.out).mono ?_
                       (case side1 => exact kc_ (Kd.C_below HR0.out HB.out))
                       (case side2 => exact HC0.out)
                       rintro e w60 ⟨v526, rfl, ho0, hb⟩
                       refine ⟨_, rfl, ?_⟩
                       have n0_ := Aside0.mk (Kd.V_elder' (kv_ HO_516013.out) (Kd.S_base ho0) hb)
                       have n1_ := Aside0.mk (Kd.V_elder' (kv_ HO_516014.out) (Kd.S_base ho0) hb)
                       have n2_ := Aside0.mk (Kd.N_lower (Kd.N_mono (ok' := fun k_ => ((P1_13_ k_ ∨ P1_14_ k_) ∨ w.heap.size ≤ k_) ∧ k_ ≠ gb515) (Kd.S_N (Kd.S_bound ho0)) (fun k_ hk_ => ⟨(.inr (Nat.le_trans (below_size (by repeat (first | (with_reducible first | exact HB.out | apply below_alloc | apply pw_below_drewN | apply below_drew1 | refine below_set ?_ GE515.out) | exact HB.out))) hk_.2.1)), (Kd.freshB (g := gb515) (o := .cells #[.int .i64 a1_0, .int .i64 a1_1, .int .i64 a1_2, .int .i64 a1_3, .int .i64 a1_4, .int .i64 a1_5, .int .i64 a1_6, .int .i64 a1_7, .int .i64 a1_8, .int .i64 a1_9, .int .i64 a1_10, .int .i64 a1_11, .int .i64 a1_12, .slice A1_13 l1_13.length c1_13, .slice A1_14 l1_14.length c1_14, .bool a1_15, .int .i64 a1_16, .int .i64 a1_17, .int .i64 a1_18, .int .i64 a1_19, .int .i64 a1_20, .int .i64 a1_21, .int .i64 a1_22, .int .i64 a1_23, .bool a1_24] 44 (0, 0)) (kb_ BK515.out) k_ hk_.2.1)⟩)) (below_size (by repeat (first | (with_reducible first | exact HB.out | apply below_alloc | apply pw_below_drewN | apply below_drew1 | refine below_set ?_ GE515.out) | exact HB.out))))
                       have n3_ := Aside0.mk (blk_below (kb_ BK515.out) hb)
                       have n4_ := Aside0.mk (below_step (by repeat (first | (with_reducible first | exact HB.out | apply below_alloc | apply pw_below_drewN | apply below_drew1 | refine below_set ?_ GE515.out) | exact HB.out)) hb)
                       clear HO_516013
                       clear HO_516014
                       clear BK515
                       clear HB
                       have HO_516013 := n0_
                       have HO_516014 := n1_
                       have HO527 := n2_
                       have BK515 := n3_
                       have HB := n4_
                       clear n0_ n1_ n2_ n3_ n4_
                       (try clear hb)
                       (try clear hb2)
                       (try clear hk)
                       (try clear hi)
                       (try clear ho0)
                       refine hK.out _ _ BK515.out (fun hHeld => ?_)
                       clear hK K
                       refine norm_ (a' := ?_) ?_ ?_
                       rotate_left
                       · show Act.put _ (some 50) _ = _
                         simp only [Act.put, List.setIfInBounds_toArray, List.set_cons_zero, List.set_cons_succ, i64_w, i32_w]
                         rfl
                       refine one_ (i := 3) (N := some 52) #[true, true, true, true, false, true, false, false] rfl rfl (one_of HT_.out (by kernel_rfl)) (by decide) (fun K hK => ?_)
                       refine Kd.N_lit_step k44 _ 44 ?hg (N' := 52) ?hd (xs := ([(⟨(⟨a1_0, a1_1⟩ : S24), a1_2, (⟨a1_3, a1_4⟩ : S40), (⟨a1_5, a1_6⟩ : S40), (⟨a1_7, (⟨a1_8, a1_9⟩ : S26), (⟨a1_10, a1_11⟩ : S28), a1_12, l1_13, l1_14, a1_15⟩ : S32), a1_16, (⟨a1_17, a1_18, a1_19, a1_20, a1_21, a1_22, a1_23⟩ : S42), a1_24⟩ : S44)] : List (S44))) (inner := [.int .i64 a1_0, .int .i64 a1_1, .int .i64 a1_2, .int .i64 a1_3, .int .i64 a1_4, .int .i64 a1_5, .int .i64 a1_6, .int .i64 a1_7, .int .i64 a1_8, .int .i64 a1_9, .int .i64 a1_10, .int .i64 a1_11, .int .i64 a1_12, .slice A1_13 l1_13.length c1_13, .slice A1_14 l1_14.length c1_14, .bool a1_15, .int .i64 a1_16, .int .i64 a1_17, .int .i64 a1_18, .int .i64 a1_19, .int .i64 a1_20, .int .i64 a1_21, .int .i64 a1_22, .int .i64 a1_23, .bool a1_24]) (ok := (fun k_ => ((P1_13_ k_ ∨ P1_14_ k_) ∨ w.heap.size ≤ k_) ∧ some k_ ≠ (v526 : Value).ownBlock ∧ k_ ≠ gb515)) (okp := (fun k_ => ((P1_13_ k_ ∨ P1_14_ k_) ∨ w.heap.size ≤ k_) ∧ some k_ ≠ (v526 : Value).ownBlock ∧ k_ ≠ gb515)) ?hr ?hp (fun _ hk => hk) ((show ∀ k_, w60.heap.size ≤ k_ → (fun k_ => ((P1_13_ k_ ∨ P1_14_ k_) ∨ w.heap.size ≤ k_) ∧ some k_ ≠ (v526 : Value).ownBlock ∧ k_ ≠ gb515) k_ from fun k_ hk => ⟨(.inr (Nat.le_trans (below_size (by repeat (first | (with_reducible first | exact HB.out | apply below_alloc | apply pw_below_drewN | apply below_drew1 | refine below_set ?_ GE515.out) | exact HB.out))) hk)), Kd.fresh' (Kd.N_lt (kn_ HO527.out)) k_ hk, Kd.freshB (g := gb515) (o := .cells #[.int .i64 a1_0, .int .i64 a1_1, .int .i64 a1_2, .int .i64 a1_3, .int .i64 a1_4, .int .i64 a1_5, .int .i64 a1_6, .int .i64 a1_7, .int .i64 a1_8, .int .i64 a1_9, .int .i64 a1_10, .int .i64 a1_11, .int .i64 a1_12, .slice A1_13 l1_13.length c1_13, .slice A1_14 l1_14.length c1_14, .bool a1_15, .int .i64 a1_16, .int .i64 a1_17, .int .i64 a1_18, .int .i64 a1_19, .int .i64 a1_20, .int .i64 a1_21, .int .i64 a1_22, .int .i64 a1_23, .bool a1_24] 44 (0, 0)) (kb_ BK515.out) k_ hk⟩) _ (Nat.le_refl _)) (Below.refl _ _) (Nat.le_refl _) (by simp) ?_; (case hd => rfl); (case hg => rfl); (case hr => first | (go_simp; done) | (go_simp; rfl)); (case hp => exact (Reps.front (show Kd.FK k44 _ _ (⟨(⟨a1_0, a1_1⟩ : S24), a1_2, (⟨a1_3, a1_4⟩ : S40), (⟨a1_5, a1_6⟩ : S40), (⟨a1_7, (⟨a1_8, a1_9⟩ : S26), (⟨a1_10, a1_11⟩ : S28), a1_12, l1_13, l1_14, a1_15⟩ : S32), a1_16, (⟨a1_17, a1_18, a1_19, a1_20, a1_21, a1_22, a1_23⟩ : S42), a1_24⟩ : S44) [.int .i64 a1_0, .int .i64 a1_1, .int .i64 a1_2, .int .i64 a1_3, .int .i64 a1_4, .int .i64 a1_5, .int .i64 a1_6, .int .i64 a1_7, .int .i64 a1_8, .int .i64 a1_9, .int .i64 a1_10, .int .i64 a1_11, .int .i64 a1_12, .slice A1_13 l1_13.length c1_13, .slice A1_14 l1_14.length c1_14, .bool a1_15, .int .i64 a1_16, .int .i64 a1_17, .int .i64 a1_18, .int .i64 a1_19, .int .i64 a1_20, .int .i64 a1_21, .int .i64 a1_22, .int .i64 a1_23, .bool a1_24] from (k44_mkF _ _ (⟨(⟨a1_0, a1_1⟩ : S24), a1_2, (⟨a1_3, a1_4⟩ : S40), (⟨a1_5, a1_6⟩ : S40), (⟨a1_7, (⟨a1_8, a1_9⟩ : S26), (⟨a1_10, a1_11⟩ : S28), a1_12, l1_13, l1_14, a1_15⟩ : S32), a1_16, (⟨a1_17, a1_18, a1_19, a1_20, a1_21, a1_22, a1_23⟩ : S42), a1_24⟩ : S44) (Kd.V_reads' (Kd.V_mono (ok' := (fun k_ => ((P1_13_ k_ ∨ P1_14_ k_) ∨ w.heap.size ≤ k_) ∧ some k_ ≠ (v526 : Value).ownBlock ∧ k_ ≠ gb515)) (HO_516013.out) (fun k_ hk => ⟨hk.1.1, ⟨hk.2, hk.1.2⟩⟩))).2.1 (Kd.V_F (Kd.V_mono (ok' := (fun k_ => ((P1_13_ k_ ∨ P1_14_ k_) ∨ w.heap.size ≤ k_) ∧ some k_ ≠ (v526 : Value).ownBlock ∧ k_ ≠ gb515)) (HO_516013.out) (fun k_ hk => ⟨hk.1.1, ⟨hk.2, hk.1.2⟩⟩))) (Kd.V_reads' (Kd.V_mono (ok' := (fun k_ => ((P1_13_ k_ ∨ P1_14_ k_) ∨ w.heap.size ≤ k_) ∧ some k_ ≠ (v526 : Value).ownBlock ∧ k_ ≠ gb515)) (HO_516014.out) (fun k_ hk => ⟨hk.1.1, ⟨hk.2, hk.1.2⟩⟩))).2.1 (Kd.V_F (Kd.V_mono (ok' := (fun k_ => ((P1_13_ k_ ∨ P1_14_ k_) ∨ w.heap.size ≤ k_) ∧ some k_ ≠ (v526 : Value).ownBlock ∧ k_ ≠ gb515)) (HO_516014.out) (fun k_ hk => ⟨hk.1.1, ⟨hk.2, hk.1.2⟩⟩))))) rfl (Reps.none _ _) rfl))
                       intro v529 w61 ho62 hb hg_ hnew_
                       clear hg_ hnew_
                       (first | rw [← Ny528.out] at ho62 | (simp only [Int.reduceToNat] at ho62; rw [← Ny528.out] at ho62))
                       have n0_ := Aside0.mk (Kd.V_elder' (kv_ HO_516013.out) (Kd.N_base ho62) hb)
                       have n1_ := Aside0.mk (Kd.V_elder' (kv_ HO_516014.out) (Kd.N_base ho62) hb)
                       have n2_ := Aside0.mk (Kd.N_elder' (kn_ HO527.out) (Kd.N_base ho62) hb)
                       have n3_ := Aside0.mk (Kd.N_lower ho62 (below_size (by repeat (first | (with_reducible first | exact HB.out | apply below_alloc | apply pw_below_drewN | apply below_drew1 | refine below_set ?_ GE515.out) | exact HB.out))))
                       have n4_ := Aside0.mk (blk_below (kb_ BK515.out) hb)
                       have n5_ := Aside0.mk (below_step (by repeat (first | (with_reducible first | exact HB.out | apply below_alloc | apply pw_below_drewN | apply below_drew1 | refine below_set ?_ GE515.out) | exact HB.out)) hb)
                       clear HO_516013
                       clear HO_516014
                       clear HO527
                       clear BK515
                       clear HB
                       have HO_516013 := n0_
                       have HO_516014 := n1_
                       have HO527 := n2_
                       have HO530 := n3_
                       have BK515 := n4_
                       have HB := n5_
                       clear n0_ n1_ n2_ n3_ n4_ n5_
                       clear hb ho62
                       refine hK.out _ _ BK515.out (fun hHeld => ?_)
                       clear hK K
                       refine norm_ (a' := ?_) ?_ ?_
                       rotate_left
                       · show Act.put _ (some 52) _ = _
                         simp only [Act.put, List.setIfInBounds_toArray, List.set_cons_zero, List.set_cons_succ, i64_w, i32_w]
                         rfl
                       exact norm_ (by simp only [putAll, Act.put, List.setIfInBounds_toArray, List.set_cons_zero, List.set_cons_succ]) (hCont (v526, v529) _ ⟨hHeld, (by (with_reducible repeat (first | apply Kd.N_alloc | apply Kd.N_drewN | apply Kd.N_drew)); exact Kd.N_mono HO527.out (fun _ hk => ⟨hk.1.1, ⟨hk.2, hk.1.2⟩⟩)), (kn_ HO530.out), (by (with_reducible repeat (first | apply Kd.V_alloc | apply Kd.V_drewN | apply Kd.V_drew)); exact Kd.V_mono HO_516013.out (fun _ hk => ⟨hk.1.1.1, ⟨hk.1.2, ⟨hk.2, hk.1.1.2⟩⟩⟩)), (by (with_reducible repeat (first | apply Kd.V_alloc | apply Kd.V_drewN | apply Kd.V_drew)); exact Kd.V_mono HO_516014.out (fun _ hk => ⟨hk.1.1.1, ⟨hk.1.2, ⟨hk.2, hk.1.1.2⟩⟩⟩)), (kb_ BK515.out), (by repeat (first | (with_reducible first | exact HB.out | apply below_alloc | apply pw_below_drewN | apply below_drew1 | refine below_set ?_ GE515.out) | exact HB.out))⟩)
                     · skip
                       refine Kd.N_lit_step k44 _ 44 ?hg (N' := 52) ?hd (xs := ([(⟨(⟨a1_0, a1_1⟩ : S24), a1_2, (⟨a1_3, a1_4⟩ : S40), (⟨a1_5, a1_6⟩ : S40), (⟨a1_7, (⟨a1_8, a1_9⟩ : S26), (⟨a1_10, a1_11⟩ : S28), a1_12, l1_13, l1_14, a1_15⟩ : S32), a1_16, (⟨a1_17, a1_18, a1_19, a1_20, a1_21, a1_22, a1_23⟩ : S42), a1_24⟩ : S44)] : List (S44))) (inner := [.int .i64 a1_0, .int .i64 a1_1, .int .i64 a1_2, .int .i64 a1_3, .int .i64 a1_4, .int .i64 a1_5, .int .i64 a1_6, .int .i64 a1_7, .int .i64 a1_8, .int .i64 a1_9, .int .i64 a1_10, .int .i64 a1_11, .int .i64 a1_12, .slice A1_13 l1_13.length c1_13, .slice A1_14 l1_14.length c1_14, .bool a1_15, .int .i64 a1_16, .int .i64 a1_17, .int .i64 a1_18, .int .i64 a1_19, .int .i64 a1_20, .int .i64 a1_21, .int .i64 a1_22, .int .i64 a1_23, .bool a1_24]) (ok := (fun k_ => ((P1_13_ k_ ∨ P1_14_ k_) ∨ w.heap.size ≤ k_) ∧ k_ ≠ gb515)) (okp := (fun k_ => ((P1_13_ k_ ∨ P1_14_ k_) ∨ w.heap.size ≤ k_) ∧ k_ ≠ gb515)) ?hr ?hp (fun _ hk => hk) ((show ∀ k_, w59.heap.size ≤ k_ → (fun k_ => ((P1_13_ k_ ∨ P1_14_ k_) ∨ w.heap.size ≤ k_) ∧ k_ ≠ gb515) k_ from fun k_ hk => ⟨(.inr (Nat.le_trans (below_size (by repeat (first | (with_reducible first | exact HB.out | apply below_alloc | apply pw_below_drewN | apply below_drew1 | refine below_set ?_ GE515.out) | exact HB.out))) hk)), Kd.freshB (g := gb515) (o := .cells #[.int .i64 a1_0, .int .i64 a1_1, .int .i64 a1_2, .int .i64 a1_3, .int .i64 a1_4, .int .i64 a1_5, .int .i64 a1_6, .int .i64 a1_7, .int .i64 a1_8, .int .i64 a1_9, .int .i64 a1_10, .int .i64 a1_11, .int .i64 a1_12, .slice A1_13 l1_13.length c1_13, .slice A1_14 l1_14.length c1_14, .bool a1_15, .int .i64 a1_16, .int .i64 a1_17, .int .i64 a1_18, .int .i64 a1_19, .int .i64 a1_20, .int .i64 a1_21, .int .i64 a1_22, .int .i64 a1_23, .bool a1_24] 44 (0, 0)) (kb_ BK515.out) k_ hk⟩) _ (Nat.le_refl _)) (Below.refl _ _) (Nat.le_refl _) (by simp) ?_; (case hd => rfl); (case hg => rfl); (case hr => first | (go_simp; done) | (go_simp; rfl)); (case hp => exact (Reps.front (show Kd.FK k44 _ _ (⟨(⟨a1_0, a1_1⟩ : S24), a1_2, (⟨a1_3, a1_4⟩ : S40), (⟨a1_5, a1_6⟩ : S40), (⟨a1_7, (⟨a1_8, a1_9⟩ : S26), (⟨a1_10, a1_11⟩ : S28), a1_12, l1_13, l1_14, a1_15⟩ : S32), a1_16, (⟨a1_17, a1_18, a1_19, a1_20, a1_21, a1_22, a1_23⟩ : S42), a1_24⟩ : S44) [.int .i64 a1_0, .int .i64 a1_1, .int .i64 a1_2, .int .i64 a1_3, .int .i64 a1_4, .int .i64 a1_5, .int .i64 a1_6, .int .i64 a1_7, .int .i64 a1_8, .int .i64 a1_9, .int .i64 a1_10, .int .i64 a1_11, .int .i64 a1_12, .slice A1_13 l1_13.length c1_13, .slice A1_14 l1_14.length c1_14, .bool a1_15, .int .i64 a1_16, .int .i64 a1_17, .int .i64 a1_18, .int .i64 a1_19, .int .i64 a1_20, .int .i64 a1_21, .int .i64 a1_22, .int .i64 a1_23, .bool a1_24] from (k44_mkF _ _ (⟨(⟨a1_0, a1_1⟩ : S24), a1_2, (⟨a1_3, a1_4⟩ : S40), (⟨a1_5, a1_6⟩ : S40), (⟨a1_7, (⟨a1_8, a1_9⟩ : S26), (⟨a1_10, a1_11⟩ : S28), a1_12, l1_13, l1_14, a1_15⟩ : S32), a1_16, (⟨a1_17, a1_18, a1_19, a1_20, a1_21, a1_22, a1_23⟩ : S42), a1_24⟩ : S44) (Kd.V_reads' (Kd.V_mono (ok' := (fun k_ => ((P1_13_ k_ ∨ P1_14_ k_) ∨ w.heap.size ≤ k_) ∧ k_ ≠ gb515)) (HO_516013.out) (fun k_ hk => ⟨hk.1, hk.2⟩))).2.1 (Kd.V_F (Kd.V_mono (ok' := (fun k_ => ((P1_13_ k_ ∨ P1_14_ k_) ∨ w.heap.size ≤ k_) ∧ k_ ≠ gb515)) (HO_516013.out) (fun k_ hk => ⟨hk.1, hk.2⟩))) (Kd.V_reads' (Kd.V_mono (ok' := (fun k_ => ((P1_13_ k_ ∨ P1_14_ k_) ∨ w.heap.size ≤ k_) ∧ k_ ≠ gb515)) (HO_516014.out) (fun k_ hk => ⟨hk.1, hk.2⟩))).2.1 (Kd.V_F (Kd.V_mono (ok' := (fun k_ => ((P1_13_ k_ ∨ P1_14_ k_) ∨ w.heap.size ≤ k_) ∧ k_ ≠ gb515)) (HO_516014.out) (fun k_ hk => ⟨hk.1, hk.2⟩))))) rfl (Reps.none _ _) rfl))
                       intro v529 w60 ho61 hb hg_ hnew_
                       clear hg_ hnew_
                       (first | rw [← Ny528.out] at ho61 | (simp only [Int.reduceToNat] at ho61; rw [← Ny528.out] at ho61))
                       have n0_ := Aside0.mk (Kd.V_elder' (kv_ HO_516013.out) (Kd.N_base ho61) hb)
                       have n1_ := Aside0.mk (Kd.V_elder' (kv_ HO_516014.out) (Kd.N_base ho61) hb)
                       have n2_ := Aside0.mk (Kd.N_lower ho61 (below_size (by repeat (first | (with_reducible first | exact HB.out | apply below_alloc | apply pw_below_drewN | apply below_drew1 | refine below_set ?_ GE515.out) | exact HB.out))))
                       have n3_ := Aside0.mk (blk_below (kb_ BK515.out) hb)
                       have n4_ := Aside0.mk (below_step (by repeat (first | (with_reducible first | exact HB.out | apply below_alloc | apply pw_below_drewN | apply below_drew1 | refine below_set ?_ GE515.out) | exact HB.out)) hb)
                       clear HO_516013
                       clear HO_516014
                       clear BK515
                       clear HB
                       have HO_516013 := n0_
                       have HO_516014 := n1_
                       have HO530 := n2_
                       have BK515 := n3_
                       have HB := n4_
                       clear n0_ n1_ n2_ n3_ n4_
                       clear hb ho61
                       refine hK.out _ _ BK515.out (fun hHeld => ?_)
                       clear hK K
                       refine norm_ (a' := ?_) ?_ ?_
                       rotate_left
                       · show Act.put _ (some 52) _ = _
                         simp only [Act.put, List.setIfInBounds_toArray, List.set_cons_zero, List.set_cons_succ, i64_w, i32_w]
                         rfl
                       refine one_ (i := 1) (N := some 50) #[true, true, true, true, false, true, false, false] rfl rfl (one_of HT_.out (by kernel_rfl)) (by decide) (fun K hK => ?_)
                       refine goes_ Try.func13 (by kernel_rfl) rfl #[.slice A0 l0.length c0] (by rfl) rfl rfl (by (try simp only [List.map_toArray, List.map_cons, List.map_nil]); first | done | rfl | (simp only [List.length_drop, List.length_take]; rfl)) ?_
                       with_reducible refine (althinglaw11_own.calls k2 _ _ l0 t525 _ ?side1 ?side2 A39.out).mono ?_
                       (case side1 => exact kc_ (Kd.C_below HR0.out HB.out))
                       (case side2 => exact HC0.out)
                       rintro e w62 ⟨v526, rfl, ho0, hb⟩
                       refine ⟨_, rfl, ?_⟩
                       have n0_ := Aside0.mk (Kd.V_elder' (kv_ HO_516013.out) (Kd.S_base ho0) hb)
                       have n1_ := Aside0.mk (Kd.V_elder' (kv_ HO_516014.out) (Kd.S_base ho0) hb)
                       have n2_ := Aside0.mk (Kd.N_elder' (kn_ HO530.out) (Kd.S_base ho0) hb)
                       have n3_ := Aside0.mk (Kd.N_lower (Kd.N_mono (ok' := fun k_ => ((P1_13_ k_ ∨ P1_14_ k_) ∨ w.heap.size ≤ k_) ∧ some k_ ≠ (v529 : Value).ownBlock ∧ k_ ≠ gb515) (Kd.S_N (Kd.S_bound ho0)) (fun k_ hk_ => ⟨(.inr (Nat.le_trans (below_size (by repeat (first | (with_reducible first | exact HB.out | apply below_alloc | apply pw_below_drewN | apply below_drew1 | refine below_set ?_ GE515.out) | exact HB.out))) hk_.2.1)), (Kd.fresh' (Kd.N_lt (kn_ HO530.out)) k_ hk_.2.1), (Kd.freshB (g := gb515) (o := .cells #[.int .i64 a1_0, .int .i64 a1_1, .int .i64 a1_2, .int .i64 a1_3, .int .i64 a1_4, .int .i64 a1_5, .int .i64 a1_6, .int .i64 a1_7, .int .i64 a1_8, .int .i64 a1_9, .int .i64 a1_10, .int .i64 a1_11, .int .i64 a1_12, .slice A1_13 l1_13.length c1_13, .slice A1_14 l1_14.length c1_14, .bool a1_15, .int .i64 a1_16, .int .i64 a1_17, .int .i64 a1_18, .int .i64 a1_19, .int .i64 a1_20, .int .i64 a1_21, .int .i64 a1_22, .int .i64 a1_23, .bool a1_24] 44 (0, 0)) (kb_ BK515.out) k_ hk_.2.1)⟩)) (below_size (by repeat (first | (with_reducible first | exact HB.out | apply below_alloc | apply pw_below_drewN | apply below_drew1 | refine below_set ?_ GE515.out) | exact HB.out))))
                       have n4_ := Aside0.mk (blk_below (kb_ BK515.out) hb)
                       have n5_ := Aside0.mk (below_step (by repeat (first | (with_reducible first | exact HB.out | apply below_alloc | apply pw_below_drewN | apply below_drew1 | refine below_set ?_ GE515.out) | exact HB.out)) hb)
                       clear HO_516013
                       clear HO_516014
                       clear HO530
                       clear BK515
                       clear HB
                       have HO_516013 := n0_
                       have HO_516014 := n1_
                       have HO530 := n2_
                       have HO527 := n3_
                       have BK515 := n4_
                       have HB := n5_
                       clear n0_ n1_ n2_ n3_ n4_ n5_
                       (try clear hb)
                       (try clear hb2)
                       (try clear hk)
                       (try clear hi)
                       (try clear ho0)
                       refine hK.out _ _ BK515.out (fun hHeld => ?_)
                       clear hK K
                       refine norm_ (a' := ?_) ?_ ?_
                       rotate_left
                       · show Act.put _ (some 50) _ = _
                         simp only [Act.put, List.setIfInBounds_toArray, List.set_cons_zero, List.set_cons_succ, i64_w, i32_w]
                         rfl
                       exact norm_ (by simp only [putAll, Act.put, List.setIfInBounds_toArray, List.set_cons_zero, List.set_cons_succ]) (hCont (v526, v529) _ ⟨hHeld, (kn_ HO527.out), (by (with_reducible repeat (first | apply Kd.N_alloc | apply Kd.N_drewN | apply Kd.N_drew)); exact Kd.N_mono HO530.out (fun _ hk => ⟨hk.1.1, ⟨hk.2, hk.1.2⟩⟩)), (by (with_reducible repeat (first | apply Kd.V_alloc | apply Kd.V_drewN | apply Kd.V_drew)); exact Kd.V_mono HO_516013.out (fun _ hk => ⟨hk.1.1.1, ⟨hk.2, ⟨hk.1.2, hk.1.1.2⟩⟩⟩)), (by (with_reducible repeat (first | apply Kd.V_alloc | apply Kd.V_drewN | apply Kd.V_drew)); exact Kd.V_mono HO_516014.out (fun _ hk => ⟨hk.1.1.1, ⟨hk.2, ⟨hk.1.2, hk.1.1.2⟩⟩⟩)), (kb_ BK515.out), (by repeat (first | (with_reducible first | exact HB.out | apply below_alloc | apply pw_below_drewN | apply below_drew1 | refine below_set ?_ GE515.out) | exact HB.out))⟩)
                   rintro ⟨v526, v529⟩ w63 ⟨hS_, h0_, h1_, h2_, h3_, h4_, h5_⟩
                   have n0_ : Aside0 (Kd.N k44 44 w63 w.heap.size (fun k_ => ((P1_13_ k_ ∨ P1_14_ k_) ∨ w.heap.size ≤ k_) ∧ some k_ ≠ (v529 : Value).ownBlock ∧ k_ ≠ gb515) v526 t525) := ⟨h0_⟩
                   have n1_ : Aside0 (Kd.N k44 44 w63 w.heap.size (fun k_ => ((P1_13_ k_ ∨ P1_14_ k_) ∨ w.heap.size ≤ k_) ∧ some k_ ≠ (v526 : Value).ownBlock ∧ k_ ≠ gb515) v529 y528) := ⟨h1_⟩
                   have n2_ : Aside0 (Kd.V k61 61 w63 w.heap.size (fun k_ => ((P1_13_ k_ ∨ P1_14_ k_) ∨ w.heap.size ≤ k_) ∧ some k_ ≠ (v526 : Value).ownBlock ∧ some k_ ≠ (v529 : Value).ownBlock ∧ k_ ≠ gb515) (.slice A1_13 l1_13.length c1_13) l1_13) := ⟨h2_⟩
                   have n3_ : Aside0 (Kd.V k46 46 w63 w.heap.size (fun k_ => ((P1_13_ k_ ∨ P1_14_ k_) ∨ w.heap.size ≤ k_) ∧ some k_ ≠ (v526 : Value).ownBlock ∧ some k_ ≠ (v529 : Value).ownBlock ∧ k_ ≠ gb515) (.slice A1_14 l1_14.length c1_14) l1_14) := ⟨h3_⟩
                   have n4_ : Aside0 (w63.heap[gb515]? = some (.cells #[.int .i64 a1_0, .int .i64 a1_1, .int .i64 a1_2, .int .i64 a1_3, .int .i64 a1_4, .int .i64 a1_5, .int .i64 a1_6, .int .i64 a1_7, .int .i64 a1_8, .int .i64 a1_9, .int .i64 a1_10, .int .i64 a1_11, .int .i64 a1_12, .slice A1_13 l1_13.length c1_13, .slice A1_14 l1_14.length c1_14, .bool a1_15, .int .i64 a1_16, .int .i64 a1_17, .int .i64 a1_18, .int .i64 a1_19, .int .i64 a1_20, .int .i64 a1_21, .int .i64 a1_22, .int .i64 a1_23, .bool a1_24] 44 (0, 0))) := ⟨h4_⟩
                   have n5_ : Aside0 (Below w.heap.size w w63) := ⟨h5_⟩
                   clear HO_516013
                   clear HO_516014
                   clear BK515
                   clear HB
                   clear h0_ h1_ h2_ h3_ h4_ h5_
                   have HO527 := n0_
                   have HO530 := n1_
                   have HO_516013 := n2_
                   have HO_516014 := n3_
                   have BK515 := n4_
                   have HB := n5_
                   clear n0_ n1_ n2_ n3_ n4_ n5_
                   have hHeld : w63.heap[gb515]? = some (.cells #[.int .i64 a1_0, .int .i64 a1_1, .int .i64 a1_2, .int .i64 a1_3, .int .i64 a1_4, .int .i64 a1_5, .int .i64 a1_6, .int .i64 a1_7, .int .i64 a1_8, .int .i64 a1_9, .int .i64 a1_10, .int .i64 a1_11, .int .i64 a1_12, .slice A1_13 l1_13.length c1_13, .slice A1_14 l1_14.length c1_14, .bool a1_15, .int .i64 a1_16, .int .i64 a1_17, .int .i64 a1_18, .int .i64 a1_19, .int .i64 a1_20, .int .i64 a1_21, .int .i64 a1_22, .int .i64 a1_23, .bool a1_24] 44 (0, 0)) := hS_
                   obtain ⟨Ao65, co65, eo65⟩ := Kd.N_slice HO530.out
                   (first | subst eo65 | (injection eo65 with f1_ f2_ f3_; have f4_ := f1_.symm; have f5_ := f3_.symm; clear f1_ f2_ f3_; subst f4_; subst f5_))
                   refine norm_ (a' := ?_) ?_ ?_
                   rotate_left
                   · simp only [putAll, Act.put, List.setIfInBounds_toArray, List.set_cons_zero, List.set_cons_succ]
                     rfl
                   refine one_ (i := 4) (N := some 53) #[true, true, true, true, true, true, false, false] rfl rfl (one_of HT_.out (by kernel_rfl)) (by decide) (fun K hK => ?_)
                   refine Kd.N_append_rows_step k44 (w0 := w) w.heap.size (by rfl) (.tmp 50) (.tmp 52) 22 44 (.agg #[(.int .i64 0), (.int .i64 0), (.int .i64 0), (.int .i64 0), (.int .i64 0), (.int .i64 0), (.int .i64 0), (.int .i64 0), (.int .i64 0), (.int .i64 0), (.int .i64 0), (.int .i64 0), (.int .i64 0), (.slice none 0 0), (.slice none 0 0), (.bool false), (.int .i64 0), (.int .i64 0), (.int .i64 0), (.int .i64 0), (.int .i64 0), (.int .i64 0), (.int .i64 0), (.int .i64 0), (.bool false)]) 232 rfl Try.underlying22 info44 rfl (by decide) (by omega) v526 t525 y528 _ _ _ (fun k_ => ((P1_13_ k_ ∨ P1_14_ k_) ∨ w.heap.size ≤ k_) ∧ k_ ≠ gb515) (fun k_ => ((fun k_ => ((P1_13_ k_ ∨ P1_14_ k_) ∨ w.heap.size ≤ k_) ∧ k_ ≠ gb515)) k_ ∧ some k_ ≠ (v526 : Value).ownBlock) rfl rfl ?aO ?aR (fun _ hk => hk) ?aF ?aB ?aS ?aL ?_
                   (case aR => exact (by skip; exact Kd.N_F (Kd.N_mono (ok' := (fun k_ => ((fun k_ => ((P1_13_ k_ ∨ P1_14_ k_) ∨ w.heap.size ≤ k_) ∧ k_ ≠ gb515)) k_ ∧ some k_ ≠ (v526 : Value).ownBlock)) (HO530.out) (fun k_ hk => ⟨⟨hk.1, hk.2.2⟩, hk.2.1⟩))))
                   (case aB => exact (by repeat (first | (with_reducible first | exact HB.out | apply below_alloc | apply pw_below_drewN | apply below_drew1 | refine below_set ?_ GE515.out) | exact HB.out)))
                   (case aF => exact (fun k_ hk => ⟨(.inr (Nat.le_trans (below_size (by repeat (first | (with_reducible first | exact HB.out | apply below_alloc | apply pw_below_drewN | apply below_drew1 | refine below_set ?_ GE515.out) | exact HB.out))) hk)), Kd.freshB (g := gb515) (o := .cells #[.int .i64 a1_0, .int .i64 a1_1, .int .i64 a1_2, .int .i64 a1_3, .int .i64 a1_4, .int .i64 a1_5, .int .i64 a1_6, .int .i64 a1_7, .int .i64 a1_8, .int .i64 a1_9, .int .i64 a1_10, .int .i64 a1_11, .int .i64 a1_12, .slice A1_13 l1_13.length c1_13, .slice A1_14 l1_14.length c1_14, .bool a1_15, .int .i64 a1_16, .int .i64 a1_17, .int .i64 a1_18, .int .i64 a1_19, .int .i64 a1_20, .int .i64 a1_21, .int .i64 a1_22, .int .i64 a1_23, .bool a1_24] 44 (0, 0)) (kb_ BK515.out) k_ hk⟩))
                   (case aO => exact (by (with_reducible repeat (first | apply Kd.N_alloc | apply Kd.N_drewN | apply Kd.N_drew)); exact Kd.N_mono HO527.out (fun _ hk => ⟨hk.1, hk.2.2⟩)))
                   (case aS => exact (below_size (by repeat (first | (with_reducible first | exact HB.out | apply below_alloc | apply pw_below_drewN | apply below_drew1 | refine below_set ?_ GE515.out) | exact HB.out))))
                   (case aL => have := LMc40.out; omega)
                   intro v532 w64 ho hb hg hat
                   rw [← Ny531.out] at ho
                   have n0_ := Aside0.mk (Kd.V_afterv (ok := (fun k_ => ((P1_13_ k_ ∨ P1_14_ k_) ∨ w.heap.size ≤ k_) ∧ some k_ ≠ (.slice Ao65 y528.length co65 : Value).ownBlock ∧ k_ ≠ gb515)) (by (with_reducible repeat (first | apply Kd.V_alloc | apply Kd.V_drewN | apply Kd.V_drew)); exact Kd.V_mono HO_516013.out (fun _ hk => ⟨⟨hk.1, ⟨hk.2.2.1, hk.2.2.2⟩⟩, hk.2.1⟩)) hg hat)
                   have n1_ := Aside0.mk (Kd.V_afterv (ok := (fun k_ => ((P1_13_ k_ ∨ P1_14_ k_) ∨ w.heap.size ≤ k_) ∧ some k_ ≠ (.slice Ao65 y528.length co65 : Value).ownBlock ∧ k_ ≠ gb515)) (by (with_reducible repeat (first | apply Kd.V_alloc | apply Kd.V_drewN | apply Kd.V_drew)); exact Kd.V_mono HO_516014.out (fun _ hk => ⟨⟨hk.1, ⟨hk.2.2.1, hk.2.2.2⟩⟩, hk.2.1⟩)) hg hat)
                   have n2_ := Aside0.mk (blk_grown (kb_ BK515.out) hg (Kd.N_away HO527.out (fun _ hk => hk.2.2)))
                   have n3_ := Aside0.mk (Kd.N_afterv (ok := (fun k_ => ((P1_13_ k_ ∨ P1_14_ k_) ∨ w.heap.size ≤ k_) ∧ k_ ≠ gb515)) (by (with_reducible repeat (first | apply Kd.N_alloc | apply Kd.N_drewN | apply Kd.N_drew)); exact Kd.N_mono HO530.out (fun _ hk => ⟨⟨hk.1, hk.2.2⟩, hk.2.1⟩)) hg hat)
                   have n4_ := Aside0.mk (hb)
                   have n5_ := Aside0.mk (ho)
                   clear HO_516013
                   clear HO_516014
                   clear BK515
                   clear HO530
                   clear HB
                   clear HO527
                   have HO_516013 := n0_
                   have HO_516014 := n1_
                   have BK515 := n2_
                   have HO530 := n3_
                   have HB := n4_
                   have HO533 := n5_
                   clear n0_ n1_ n2_ n3_ n4_ n5_
                   clear ho hb hg hat
                   obtain ⟨Ao66, co66, eo66⟩ := Kd.N_slice HO533.out
                   (first | subst eo66 | (injection eo66 with f1_ f2_ f3_; have f4_ := f1_.symm; have f5_ := f3_.symm; clear f1_ f2_ f3_; subst f4_; subst f5_))
                   refine hK.out _ _ BK515.out (fun hHeld => ?_)
                   clear hK K
                   refine norm_ (a' := ?_) ?_ ?_
                   rotate_left
                   · show Act.put _ (some 53) _ = _
                     simp only [Act.put, List.setIfInBounds_toArray, List.set_cons_zero, List.set_cons_succ, i64_w, i32_w]
                     rfl
                   refine one_ (i := 6) (N := some 55) #[true, true, true, true, true, true, true, false] rfl rfl (one_of HT_.out (by kernel_rfl)) (by decide) (fun K hK => ?_)
                   refine goes_ Try.func19 (by kernel_rfl) rfl #[.slice Ao66 y531.length co66, .int .i64 a2] (by rfl) rfl rfl (by (try simp only [List.map_toArray, List.map_cons, List.map_nil]); first | done | rfl | (simp only [List.length_drop, List.length_take]; rfl)) ?_
                   with_reducible refine (index_Slot.calls k2 _ _ y531 a2 t534 _ ?side1 ?side2 A41.out).mono ?_
                   (case side1 => repeat (first | exact (Kd.N_reads' HO533.out).2.2 | (with_reducible refine Kd.C_alloc ?_ _) | (with_reducible refine Kd.C_drewN ?_ _) | (with_reducible refine Kd.C_drew ?_)))
                   (case side2 => exact (Kd.N_reads' HO533.out).2.1)
                   rintro e w67 ⟨rfl, hb⟩
                   refine ⟨_, rfl, ?_⟩
                   have n0_ := Aside0.mk (Kd.V_below (kv_ HO_516013.out) hb)
                   have n1_ := Aside0.mk (Kd.V_below (kv_ HO_516014.out) hb)
                   have n2_ := Aside0.mk (Kd.N_below (kn_ HO530.out) hb)
                   have n3_ := Aside0.mk (Kd.N_below (kn_ HO533.out) hb)
                   have n4_ := Aside0.mk (blk_below (kb_ BK515.out) hb)
                   have n5_ := Aside0.mk (below_step (by repeat (first | (with_reducible first | exact HB.out | apply below_alloc | apply pw_below_drewN | apply below_drew1 | refine below_set ?_ GE515.out) | exact HB.out)) hb)
                   clear HO_516013
                   clear HO_516014
                   clear HO530
                   clear HO533
                   clear BK515
                   clear HB
                   have HO_516013 := n0_
                   have HO_516014 := n1_
                   have HO530 := n2_
                   have HO533 := n3_
                   have BK515 := n4_
                   have HB := n5_
                   clear n0_ n1_ n2_ n3_ n4_ n5_
                   (try clear hb)
                   (try clear hb2)
                   (try clear hk)
                   (try clear hi)
                   refine hK.out _ _ BK515.out (fun hHeld => ?_)
                   clear hK K
                   refine norm_ (a' := ?_) ?_ ?_
                   rotate_left
                   · show Act.put _ (some 55) _ = _
                     simp only [Act.put, List.setIfInBounds_toArray, List.set_cons_zero, List.set_cons_succ, i64_w, i32_w]
                     rfl
                   refine pure_ (i := 7) (N := some 10) (v := ?_) (a' := ?_) #[true, true, true, true, true, true, true, true] rfl rfl (any_of HT_.out (by kernel_rfl)) (fun _ _ _ h => h) (Or.inl ⟨by rfl, ?_⟩) ?_ ?_
                   rotate_left
                   · intro w'
                     go_simp
                     with_reducible rfl
                   rotate_left
                   · simp only [Act.put, List.setIfInBounds_toArray, List.set_cons_zero, List.set_cons_succ, i64_w, i32_w]
                     rfl
                   refine done_ (done_of HT_.out (by kernel_rfl)) ?_
                   refine blk25_ BK515.out fun hcz68_0 hcz68_1 hcz68_2 hcz68_3 hcz68_4 hcz68_5 hcz68_6 hcz68_7 hcz68_8 hcz68_9 hcz68_10 hcz68_11 hcz68_12 hcz68_13 hcz68_14 hcz68_15 hcz68_16 hcz68_17 hcz68_18 hcz68_19 hcz68_20 hcz68_21 hcz68_22 hcz68_23 hcz68_24 hfz68_0 hfz68_1 hfz68_2 hfz68_3 hfz68_4 hfz68_5 hfz68_6 hfz68_7 hfz68_8 hfz68_9 hfz68_10 hfz68_11 hfz68_12 hfz68_13 hfz68_14 hfz68_15 hfz68_16 hfz68_17 hfz68_18 hfz68_19 hfz68_20 hfz68_21 hfz68_22 hfz68_23 hfz68_24 => ?_
                   try go_wp2_with (first | ((with_reducible refine gate_dst (N := 76) rfl ?_); (try (refine gate_guard (by rfl) ?_; dsimp only)); (try (refine gate_guard (by rfl) ?_; dsimp only)); refine goesL_ (some 76) rfl rfl Try.func12 (by kernel_rfl) rfl #[] rfl (by (try simp only [List.map_toArray, List.map_cons, List.map_nil]); first | done | rfl) ?_; (with_reducible refine (althinglaw11_awake.calls k2  t536 _ A58.out).mono ?_); rintro e w69 ⟨rfl, hb⟩; refine ⟨_, rfl, ?_⟩; have n0_ := Aside0.mk (Kd.V_below (kv_ HO_516013.out) hb); have n1_ := Aside0.mk (Kd.V_below (kv_ HO_516014.out) hb); have n2_ := Aside0.mk (Kd.N_below (kn_ HO530.out) hb); have n3_ := Aside0.mk (Kd.N_below (kn_ HO533.out) hb); have n4_ := Aside0.mk (blk_below (kb_ BK515.out) hb); have n5_ := Aside0.mk (below_step (by repeat (first | (with_reducible first | exact HB.out | apply below_alloc | apply pw_below_drewN | apply below_drew1 | refine below_set ?_ GE515.out) | exact HB.out)) hb); clear HO_516013; clear HO_516014; clear HO530; clear HO533; clear BK515; clear HB; have HO_516013 := n0_; have HO_516014 := n1_; have HO530 := n2_; have HO533 := n3_; have BK515 := n4_; have HB := n5_; clear n0_ n1_ n2_ n3_ n4_ n5_; (try clear hb); (try clear hb2); (try clear hk); (try clear hi)))
                   go_ret
                   exact ⟨by first | rfl | (simp [errW_none, errW_some] <;> rfl) | (simp [*, errW_none, errW_some] <;> rfl), by repeat (first | (with_reducible first | exact HB.out | apply below_alloc | apply pw_below_drewN | apply below_drew1 | refine below_set ?_ GE515.out) | exact HB.out)⟩
                 · rw [if_neg c57] at H
                   exact absurd H (by simp)
             · rw [if_neg c43] at H
               exact absurd H (by simp)
           · rw [if_neg c42] at H
             exact absurd H (by simp)
         · rw [if_neg c40] at H
           exact absurd H (by simp)
end Go.Proofs.Ytklbmdakoeoplaa.X
end
section
namespace Go.Proofs.Ytklbmdakoeoplaa.Strs
open Go.RowKit Go.Proofs.YtklbmdakoeoplaaW.PrintWords Go.Proofs.YtklbmdakoeoplaaW.PrintLast Go.Proofs.YtklbmdakoeoplaaW.PrintMore Go.Proofs.Ytklbmdakoeoplaa.X
set_option linter.unusedSimpArgs false
set_option linter.unusedVariables false
section
variable (l : List Cm) (n j : Int) (a b c d e s : Int) (r : List Rd) (w : List Wr) (m : Bool) (P : Prop)
theorem few_j4 (hn : ∃ q, Ev (fun k => althinglaw05_Few.l0 k l n (wrap64 (j + 1))) q ∧ (q = true → P)) (i : Int) : ∃ q, Ev (fun k => althinglaw05_Few.j4 k i l n j false a b c d e s r w m) q ∧ (q = true → P ∧ r.length ≤ 20 ∧ w.length ≤ 20) := by
  by_cases h1 : (r.length : Int) > 20
  · refine ⟨false, Ev.step (f := fun _ => some false) (fun k => ?_) (Ev.const rfl), fun e => by cases e⟩
    simp only [althinglaw05_Few.j4]; rw [if_neg (by simp), if_pos h1]
  · by_cases h2 : (w.length : Int) > 20
    · refine ⟨false, Ev.step (f := fun _ => some false) (fun k => ?_) (Ev.const rfl), fun e => by cases e⟩
      simp only [althinglaw05_Few.j4]; rw [if_neg (by simp), if_neg h1, if_pos h2]
    · obtain ⟨q, hq, hp⟩ := hn
      refine ⟨q, Ev.step (fun k => ?_) hq, fun e => ⟨hp e, by omega, by omega⟩⟩
      simp only [althinglaw05_Few.j4]; rw [if_neg (by simp), if_neg h1, if_neg h2]
theorem few_l2 (hn : ∃ q, Ev (fun k => althinglaw05_Few.l0 k l n (wrap64 (j + 1))) q ∧ (q = true → P)) : ∀ dd i, i + dd = min w.length 21 → ∃ q, Ev (fun k => althinglaw05_Few.l2 k (i : Int) l n j a b c d e s r w m) q ∧ (q = true → P ∧ r.length ≤ 20 ∧ w.length ≤ 20 ∧ ∀ x ∈ w.drop i, x.f0.size ≤ 100 ∧ x.f1.size ≤ 100)
  | 0, i, hi => by
    obtain ⟨q, hq, hp⟩ := few_j4 l n j a b c d e s r w m P hn (i : Int)
    refine ⟨q, Ev.step (fun k => ?_) hq, fun e => ⟨(hp e).1, (hp e).2.1, (hp e).2.2, fun x hx => ?_⟩⟩
    · simp only [althinglaw05_Few.l2]
      by_cases h1 : (i : Int) < (w.length : Int)
      · rw [if_pos h1, decide_eq_false (by omega)]
      · rw [if_neg h1]
    · have := (hp e).2.2
      rw [List.drop_eq_nil_of_le (by omega)] at hx
      cases hx
  | dd + 1, i, hi => by
    have hil : i < w.length := by omega
    have hstep : ∀ k, althinglaw05_Few.l2 (k + 1) (i : Int) l n j a b c d e s r w m = althinglaw05_Few.j4 k (i : Int) l n j true a b c d e s r w m := fun k => by
      simp only [althinglaw05_Few.l2]; rw [if_pos (by omega), decide_eq_true (by omega)]
    have hj : ∃ q, Ev (fun k => althinglaw05_Few.j4 k (i : Int) l n j true a b c d e s r w m) q ∧ (q = true → P ∧ r.length ≤ 20 ∧ w.length ≤ 20 ∧ ∀ x ∈ w.drop i, x.f0.size ≤ 100 ∧ x.f1.size ≤ 100) := by
      by_cases h1 : (w[i].f0.size : Int) > 100
      · refine ⟨false, Ev.step (f := fun _ => some false) (fun k => ?_) (Ev.const rfl), fun e => by cases e⟩
        simp only [althinglaw05_Few.j4]; rw [if_pos trivial, if_pos (by omega), if_pos (by omega), rdW w i hil, if_pos h1]
      · by_cases h2 : (w[i].f1.size : Int) > 100
        · refine ⟨false, Ev.step (f := fun _ => some false) (fun k => ?_) (Ev.const rfl), fun e => by cases e⟩
          simp only [althinglaw05_Few.j4]; rw [if_pos trivial, if_pos (by omega), if_pos (by omega), rdW w i hil, if_neg h1, if_pos h2]
        · obtain ⟨q, hq, hp⟩ := few_l2 hn dd (i + 1) (by omega)
          refine ⟨q, Ev.step (fun k => ?_) hq, fun e => ⟨(hp e).1, (hp e).2.1, (hp e).2.2.1, fun x hx => ?_⟩⟩
          · simp only [althinglaw05_Few.j4]; rw [if_pos trivial, if_pos (by omega), if_pos (by omega), rdW w i hil, if_neg h1, if_neg h2, w1 i (by omega)]
          · rw [List.drop_eq_getElem_cons hil] at hx
            rcases List.mem_cons.1 hx with rfl | hx
            · exact ⟨by omega, by omega⟩
            · exact (hp e).2.2.2 x hx
    obtain ⟨q, hq, hp⟩ := hj
    exact ⟨q, Ev.step hstep hq, hp⟩
theorem few_l1 (hn : ∃ q, Ev (fun k => althinglaw05_Few.l0 k l n (wrap64 (j + 1))) q ∧ (q = true → P)) : ∀ dd i, i + dd = min r.length 21 → ∃ q, Ev (fun k => althinglaw05_Few.l1 k (i : Int) l n j a b c d e s r w m) q ∧ (q = true → P ∧ r.length ≤ 20 ∧ w.length ≤ 20 ∧ (∀ x ∈ r.drop i, x.f0.size ≤ 100) ∧ ∀ x ∈ w, x.f0.size ≤ 100 ∧ x.f1.size ≤ 100)
  | 0, i, hi => by
    obtain ⟨q, hq, hp⟩ := few_l2 l n j a b c d e s r w m P hn (min w.length 21) 0 (by omega)
    refine ⟨q, Ev.step (f := fun k => althinglaw05_Few.j2 k (i : Int) l n j false a b c d e s r w m) (fun k => ?_) (Ev.step (fun k => ?_) hq), fun e => ⟨(hp e).1, (hp e).2.1, (hp e).2.2.1, fun x hx => ?_, by simpa using (hp e).2.2.2⟩⟩
    · simp only [althinglaw05_Few.l1]
      by_cases h1 : (i : Int) < (r.length : Int)
      · rw [if_pos h1, decide_eq_false (by omega)]
      · rw [if_neg h1]
    · simp only [althinglaw05_Few.j2]; rw [if_neg (by simp)]; rfl
    · have := (hp e).2.1
      rw [List.drop_eq_nil_of_le (by omega)] at hx
      cases hx
  | dd + 1, i, hi => by
    have hil : i < r.length := by omega
    have hstep : ∀ k, althinglaw05_Few.l1 (k + 1) (i : Int) l n j a b c d e s r w m = althinglaw05_Few.j2 k (i : Int) l n j true a b c d e s r w m := fun k => by
      simp only [althinglaw05_Few.l1]; rw [if_pos (by omega), decide_eq_true (by omega)]
    have hj : ∃ q, Ev (fun k => althinglaw05_Few.j2 k (i : Int) l n j true a b c d e s r w m) q ∧ (q = true → P ∧ r.length ≤ 20 ∧ w.length ≤ 20 ∧ (∀ x ∈ r.drop i, x.f0.size ≤ 100) ∧ ∀ x ∈ w, x.f0.size ≤ 100 ∧ x.f1.size ≤ 100) := by
      by_cases h1 : (r[i].f0.size : Int) > 100
      · refine ⟨false, Ev.step (f := fun _ => some false) (fun k => ?_) (Ev.const rfl), fun e => by cases e⟩
        simp only [althinglaw05_Few.j2]; rw [if_pos trivial, if_pos (by omega), if_pos (by omega), rdR r i hil, if_pos h1]
      · obtain ⟨q, hq, hp⟩ := few_l1 hn dd (i + 1) (by omega)
        refine ⟨q, Ev.step (fun k => ?_) hq, fun e => ⟨(hp e).1, (hp e).2.1, (hp e).2.2.1, fun x hx => ?_, (hp e).2.2.2.2⟩⟩
        · simp only [althinglaw05_Few.j2]; rw [if_pos trivial, if_pos (by omega), if_pos (by omega), rdR r i hil, if_neg h1, w1 i (by omega)]
        · rw [List.drop_eq_getElem_cons hil] at hx
          rcases List.mem_cons.1 hx with rfl | hx
          · omega
          · exact (hp e).2.2.2.1 x hx
    obtain ⟨q, hq, hp⟩ := hj
    exact ⟨q, Ev.step hstep hq, hp⟩
end
theorem few_l0 (l : List Cm) (hl : l.length ≤ 1000) : ∀ dd i, i + dd = l.length → ∃ q, Ev (fun k => althinglaw05_Few.l0 k l (l.length : Int) (i : Int)) q ∧ (q = true → ∀ c ∈ l.drop i, small c.f4 c.f5)
  | 0, i, hi => by
    refine ⟨true, Ev.step (f := fun _ => some true) (fun k => ?_) (Ev.const rfl), fun _ c hc => ?_⟩
    · simp only [althinglaw05_Few.l0]; rw [if_neg (by omega)]
    · rw [List.drop_eq_nil_of_le (by omega)] at hc; cases hc
  | dd + 1, i, hi => by
    have hil : i < l.length := by omega
    obtain ⟨q0, hq0, hp0⟩ := few_l0 l hl dd (i + 1) (by omega)
    have hn : ∃ q, Ev (fun k => althinglaw05_Few.l0 k l (l.length : Int) (wrap64 ((i : Int) + 1))) q ∧ (q = true → ∀ c ∈ l.drop (i + 1), small c.f4 c.f5) := ⟨q0, by rw [w1 i (by omega)]; exact hq0, hp0⟩
    obtain ⟨q, hq, hp⟩ := few_l1 l (l.length : Int) (i : Int) l[i].f0 l[i].f1.f0 l[i].f1.f1 l[i].f2.f0 l[i].f2.f1 l[i].f3 l[i].f4 l[i].f5 l[i].f6 _ hn (min l[i].f4.length 21) 0 (by omega)
    refine ⟨q, Ev.step (fun k => ?_) hq, fun e c hc => ?_⟩
    · simp only [althinglaw05_Few.l0]; rw [if_pos (by omega), if_pos (by omega), if_pos (by omega), rdC l i hil]; rfl
    · rw [List.drop_eq_getElem_cons hil] at hc
      rcases List.mem_cons.1 hc with rfl | hc
      · have := hp e
        exact ⟨this.2.1, this.2.2.1, by simpa using this.2.2.2.1, this.2.2.2.2⟩
      · exact (hp e).1 c hc
theorem few_ex (l : List Cm) (hl : l.length ≤ 1000) : ∃ q, Ev (fun k => althinglaw05_Few.f k l) q ∧ (q = true → ∀ c ∈ l, small c.f4 c.f5) := by
  obtain ⟨q, hq, hp⟩ := few_l0 l hl l.length 0 (by omega)
  exact ⟨q, hq, by simpa using hp⟩
end Go.Proofs.Ytklbmdakoeoplaa.Strs
end
section
namespace Go.Proofs.Ytklbmdakoeoplaa.Strs
open Go.RowKit Go.Proofs.YtklbmdakoeoplaaW.PrintWords Go.Proofs.YtklbmdakoeoplaaW.PrintLast Go.Proofs.YtklbmdakoeoplaaW.PrintMore Go.Proofs.Ytklbmdakoeoplaa.X
set_option linter.unusedSimpArgs false
set_option linter.unusedVariables false
def few20 (l : List Rc) : Prop := l.length ≤ 20 ∧ ∀ x ∈ l, small x.f4.f4 x.f4.f5
theorem few20_R {l : List Rc} (h : few20 l) : fewR l := ⟨by have := h.1; omega, h.2⟩
theorem few11_l0 (l : List Rc) : ∀ dd i, i + dd = min l.length 21 → (∀ x ∈ l.take i, small x.f4.f4 x.f4.f5) → ∃ q, Ev (fun k => althinglaw11_Few.l0 k l (i : Int)) q ∧ (q = true → few20 l)
  | 0, i, hi, ht => by
    refine ⟨decide ((l.length : Int) ≤ 20), Ev.step (f := fun k => althinglaw11_Few.j1 k l (i : Int) false) (fun k => ?_) (Ev.step (f := fun _ => some (decide ((l.length : Int) ≤ 20))) (fun k => ?_) (Ev.const rfl)), fun e => ?_⟩
    · simp only [althinglaw11_Few.l0]
      by_cases h1 : (i : Int) < (l.length : Int)
      · rw [if_pos h1, decide_eq_false (by omega)]
      · rw [if_neg h1]
    · simp only [althinglaw11_Few.j1]; rw [if_neg (by simp)]
    · rw [decide_eq_true_eq] at e
      have hl : i = l.length := by omega
      rw [hl, List.take_length] at ht
      exact ⟨by omega, ht⟩
  | dd + 1, i, hi, ht => by
    have hil : i < l.length := by omega
    obtain ⟨q, hq, hp⟩ := few_ex [l[i].f4] (by simp)
    have hstep : ∀ k, althinglaw11_Few.l0 (k + 1) l (i : Int) = althinglaw11_Few.j1 k l (i : Int) true := fun k => by
      simp only [althinglaw11_Few.l0]; rw [if_pos (by omega), decide_eq_true (by omega)]
    cases q with
    | false =>
      refine ⟨false, Ev.step hstep (Ev.step (f := fun k => (althinglaw05_Few.f k [l[i].f4]).bind fun t => if t = true then althinglaw11_Few.l0 k l ((i + 1 : Nat) : Int) else some false) (fun k => ?_) (Ev.bindF hq (Ev.const rfl))), fun e => by cases e⟩
      simp only [althinglaw11_Few.j1]; rw [if_pos trivial, if_pos (by omega), if_pos (by omega), rdRc l i hil, w1 i (by omega)]
    | true =>
      have hs : small l[i].f4.f4 l[i].f4.f5 := hp rfl _ List.mem_cons_self
      obtain ⟨q2, hq2, hp2⟩ := few11_l0 l dd (i + 1) (by omega) (fun x hx => by
        rw [List.take_succ_eq_append_getElem hil, List.mem_append, List.mem_singleton] at hx
        rcases hx with hx | rfl
        · exact ht x hx
        · exact hs)
      refine ⟨q2, Ev.step hstep (Ev.step (f := fun k => (althinglaw05_Few.f k [l[i].f4]).bind fun t => if t = true then althinglaw11_Few.l0 k l ((i + 1 : Nat) : Int) else some false) (fun k => ?_) (Ev.bindT hq hq2)), hp2⟩
      simp only [althinglaw11_Few.j1]; rw [if_pos trivial, if_pos (by omega), if_pos (by omega), rdRc l i hil, w1 i (by omega)]
theorem few11_ex (l : List Rc) : ∃ q, Ev (fun k => althinglaw11_Few.f k l) q ∧ (q = true → few20 l) := few11_l0 l (min l.length 21) 0 (by omega) (by simp)
theorem cloned_rec (a b c d e s : Int) (r : List Rd) (w : List Wr) (m : Bool) (h : small r w) : althinglaw11_cloned.f a b c d e s r w m = some (a, b, c, d, e, s, r, w, m) := by
  have hr := h.1
  have hw := h.2.1
  unfold althinglaw11_cloned.f
  simp only [Option.bind_some, List.nil_append, List.length_nil]
  rw [if_pos (by omega), if_pos (by omega)]
theorem own_l0 (l : List Rc) (h : fewR l) : ∀ dd i, i + dd = l.length → Ev (fun k => althinglaw11_own.l0 k (l.take i) l (l.length : Int) (i : Int)) l
  | 0, i, hi => by
    refine Ev.step (f := fun _ => some (l.take i)) (fun k => ?_) (Ev.const ?_)
    · simp only [althinglaw11_own.l0]; rw [if_neg (by omega)]
    · rw [show i = l.length by omega, List.take_length]
  | dd + 1, i, hi => by
    have hil : i < l.length := by omega
    have hl := h.1
    have hs := h.2 _ (List.getElem_mem hil)
    refine Ev.step (fun k => ?_) (own_l0 l h dd (i + 1) (by omega))
    simp only [althinglaw11_own.l0]
    rw [if_pos (by omega), if_pos (by omega), if_pos (by omega), rdRc l i hil, cloned_rec _ _ _ _ _ _ _ _ _ hs, Option.bind_some, if_pos (by rw [List.length_take]; omega), w1 i (by omega), List.take_succ_eq_append_getElem hil]
theorem own_is (l : List Rc) (h : fewR l) : Ev (fun k => althinglaw11_own.f k l) l := own_l0 l h l.length 0 (by omega)
def slotStep (rep : Int) (n : Int) (x : Rc) : Int := if x.f0.f0 = rep then mx n (mn x.f0.f1 1048576) else n
def slotF (l : List Rc) (rep : Int) : Int := l.foldl (slotStep rep) 0
theorem slot_l0 (l : List Rc) (rep : Int) (hl : l.length ≤ 1000) : ∀ dd i (n : Int), i + dd = l.length → Ev (fun k => index_Slot.l0 k rep n l (l.length : Int) (i : Int)) (wrap64 ((l.drop i).foldl (slotStep rep) n + 1))
  | 0, i, n, hi => by
    refine Ev.step (f := fun _ => some (wrap64 (n + 1))) (fun k => ?_) (Ev.const ?_)
    · simp only [index_Slot.l0]; rw [if_neg (by omega)]
    · rw [List.drop_eq_nil_of_le (by omega)]; rfl
  | dd + 1, i, n, hi => by
    have hil : i < l.length := by omega
    rw [List.drop_eq_getElem_cons hil, List.foldl_cons]
    refine Ev.step (fun k => ?_) (slot_l0 l rep hl dd (i + 1) (slotStep rep n l[i]) (by omega))
    simp only [index_Slot.l0]
    rw [if_pos (by omega), if_pos (by omega), if_pos (by omega), rdRc l i hil, w1 i (by omega)]
    unfold slotStep
    by_cases h1 : l[i].f0.f0 = rep
    · rw [if_pos h1, if_pos h1]
    · rw [if_neg h1, if_neg h1]
theorem slot_is (l : List Rc) (rep : Int) (hl : l.length ≤ 1000) : Ev (fun k => index_Slot.f k l rep) (wrap64 (slotF l rep + 1)) := slot_l0 l rep hl l.length 0 0 (by omega)
abbrev D7 := Int × Int × Int × Int × Int × Int × Int
def withD (d : D7) (i s : Int) : D7 := (if i = 0 then max d.1 s else d.1, if i = 1 then max d.2.1 s else d.2.1, if i = 2 then max d.2.2.1 s else d.2.2.1, if i = 3 then max d.2.2.2.1 s else d.2.2.2.1, if i = 4 then max d.2.2.2.2.1 s else d.2.2.2.2.1, if i = 5 then max d.2.2.2.2.2.1 s else d.2.2.2.2.2.1, if i = 6 then max d.2.2.2.2.2.2 s else d.2.2.2.2.2.2)
def attrStep (s : Int × D7) (x : Rc) : Int × D7 := (mx s.1 (wrap64 (mn x.f5 1099511627775 + 1)), withD s.2 x.f0.f0 x.f0.f1)
theorem attrs_l0 (l : List Rc) (hl : l.length ≤ 1000) : ∀ dd i (s : Int × D7), i + dd = l.length → Ev (fun k => index_Attrs.l0 k s.1 l (l.length : Int) (i : Int) s.2.1 s.2.2.1 s.2.2.2.1 s.2.2.2.2.1 s.2.2.2.2.2.1 s.2.2.2.2.2.2.1 s.2.2.2.2.2.2.2) ((l.drop i).foldl attrStep s)
  | 0, i, s, hi => by
    refine Ev.step (f := fun _ => some s) (fun k => ?_) (Ev.const ?_)
    · simp only [index_Attrs.l0]; rw [if_neg (by omega)]
    · rw [List.drop_eq_nil_of_le (by omega)]; rfl
  | dd + 1, i, s, hi => by
    have hil : i < l.length := by omega
    rw [List.drop_eq_getElem_cons hil, List.foldl_cons]
    refine Ev.step (fun k => ?_) (attrs_l0 l hl dd (i + 1) (attrStep s l[i]) (by omega))
    simp only [index_Attrs.l0]
    rw [if_pos (by omega), if_pos (by omega), if_pos (by omega), rdRc l i hil, w1 i (by omega)]
    rfl
def attrsB (l : List Rc) (i0 i1 d0 d1 d2 : Int) (r : List Rd) (w : List Wr) (seq : Int) (d : D7) : Int × D7 := (againstB l i0 i1 d0 d1 d2 r w).foldl attrStep (seq, d)
theorem against_f (l : List Rc) (h : fewR l) (i0 i1 d0 d1 d2 d3 d4 d5 : Int) (r : List Rd) (w : List Wr) (m : Bool) (hs : small r w) : index_Against.f l i0 i1 d0 d1 d2 d3 d4 d5 r w m = some (againstB l i0 i1 d0 d1 d2 r w) := by
  unfold index_Against.f
  rw [(fewRB_iff l).2 h, (smallB_iff r w).2 hs]; rfl
theorem against_sub (l : List Rc) (i0 i1 d0 d1 d2 : Int) (r : List Rd) (w : List Wr) : (againstB l i0 i1 d0 d1 d2 r w).Sublist l := List.filter_sublist.trans (knownB_sub l)
theorem attrs_is (l : List Rc) (h : fewR l) (i0 i1 d0 d1 d2 d3 d4 d5 : Int) (r : List Rd) (w : List Wr) (m : Bool) (hs : small r w) (seq : Int) (d : D7) : Ev (fun k => index_Attrs.f k l i0 i1 d0 d1 d2 d3 d4 d5 r w m seq d.1 d.2.1 d.2.2.1 d.2.2.2.1 d.2.2.2.2.1 d.2.2.2.2.2.1 d.2.2.2.2.2.2) (attrsB l i0 i1 d0 d1 d2 r w seq d) := by
  have hl := (against_sub l i0 i1 d0 d1 d2 r w).length_le
  have hh := h.1
  refine Ev.congr (fun k => ?_) (attrs_l0 (againstB l i0 i1 d0 d1 d2 r w) (by omega) (againstB l i0 i1 d0 d1 d2 r w).length 0 (seq, d) (by omega))
  unfold index_Attrs.f
  rw [against_f l h _ _ _ _ _ _ _ _ _ _ _ hs]; rfl
def aW : List Wr := [⟨⟨#[97]⟩, ⟨#[]⟩⟩]
def aR : Rc := ⟨⟨0, 3⟩, 1, ⟨0, 0⟩, ⟨0, 0⟩, ⟨1, ⟨0, 1⟩, ⟨1, 0⟩, 1, [], aW, false⟩, 5, ⟨0, 0, 0, 0, 0, 0, 0⟩, false⟩
theorem aW_small : small [] aW := ⟨by decide, by decide, by simp, by unfold aW; simp; decide⟩
theorem aR_few : fewR [aR] := ⟨by decide, fun x hx => by
  rw [List.mem_singleton] at hx
  subst hx; exact aW_small⟩
theorem aR_inter : interB 1 0 1 [] aW 1 0 2 [] aW = true := by
  have h : meetB (keysB [] aW) (keysB [] aW) = true := by
    rw [meetB_iff]
    refine ⟨⟨#[97]⟩, ?_, ?_⟩ <;> exact ((joinB_joined (rk []) (wk aW)).2 _).2 (.inr (by unfold wk aW; simp))
  unfold interB
  rw [h]; decide
theorem aR_against : againstB [aR] 1 1 1 0 2 [] aW = [aR] := by
  have h : outB 1 1 1 0 2 [] aW aR = false := by
    unfold outB
    rw [show interB aR.f4.f0 aR.f4.f1.f0 aR.f4.f1.f1 aR.f4.f4 aR.f4.f5 1 0 2 [] aW = true from aR_inter]
    decide
  unfold againstB
  rw [show knownB [aR] = [aR] from rfl, List.filter_cons, h]; rfl
theorem awake11_is : Ev (fun k => althinglaw11_awake.f k) true := by
  unfold althinglaw11_awake.f althinglaw11_some.f
  simp only [Option.bind_some]
  refine Ev.bind (attrs_is [aR] aR_few 1 1 1 0 2 1 0 1 [] aW false aW_small 1 (0, 0, 0, 0, 0, 0, 0)) ?_
  have e : attrsB [aR] 1 1 1 0 2 [] aW 1 (0, 0, 0, 0, 0, 0, 0) = (6, 3, 0, 0, 0, 0, 0, 0) := by
    unfold attrsB
    rw [aR_against]
    simp [List.foldl, attrStep, withD, aR, mx, mn, wrap64]
    decide
  rw [e]
  refine Ev.congr (fun k => if_pos rfl) (Ev.congr (fun k => if_pos rfl) (Ev.bind (slot_is [aR] 0 (by simp)) (Ev.const ?_)))
  have e2 : wrap64 (slotF [aR] 0 + 1) = 4 := by simp [slotF, slotStep, List.foldl, aR, mx, mn, wrap64]
  rw [e2]; rfl
end Go.Proofs.Ytklbmdakoeoplaa.Strs
end
