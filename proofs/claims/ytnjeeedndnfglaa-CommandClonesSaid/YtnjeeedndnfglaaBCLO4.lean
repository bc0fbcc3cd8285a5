/- What the claim CLO leans on: texts joined by bundle.py, a program of ours; the words cut down to what is used. -/
import Derived.Test.YtnjeeedndnfglaaBCLO3
section
namespace Go.Proofs.Ytnjeeedndnfglaa.X
open Go.RowKit Go.Proofs.YtnjeeedndnfglaaW.PrintWords Go.Proofs.YtnjeeedndnfglaaW.PrintLast Go.Proofs.YtnjeeedndnfglaaW.PrintMore
attribute [local go_sem] max2_int min2_int max_two min_two max_three min_three max_four min_four   -- for this text's walks alone
set_option linter.unusedVariables false
set_option linter.unusedSimpArgs false
/-! ### althinglaw05_some: function 23 -/
def althinglaw05_some.f  : Option (Int × Int × Int × Int × Int × Int × (List (S38)) × (List (S40)) × Bool) := some (1, 0, 1, 1, 0, 1, (([(⟨(⟨#[97]⟩ : ByteArray), (⟨0, 0⟩ : S25)⟩ : S38)] : List (S38))), (([(⟨(⟨#[98]⟩ : ByteArray), (⟨#[49]⟩ : ByteArray)⟩ : S40)] : List (S40))), false)
set_option maxHeartbeats 8000000 in
set_option maxRecDepth 100000 in
theorem althinglaw05_some.calls  (r1 : Int) (r2 : Int) (r3 : Int) (r4 : Int) (r5 : Int) (r6 : Int) (r7 : List (S38)) (r8 : List (S40)) (r9 : Bool) (w : World) (h : althinglaw05_some.f  = some (r1, r2, r3, r4, r5, r6, r7, r8, r9)) :
 Calls Try.prog 23 #[] w fun e w' => ∃ v6_ v7_ : Value, e = .returned (.agg #[.int .i64 r1, .int .i64 r2, .int .i64 r3, .int .i64 r4, .int .i64 r5, .int .i64 r6, v6_, v7_, .bool r9]) ∧ Kd.R k38 38 w' w.heap.size (fun _ => True) v6_ r7 ∧ Kd.R k40 40 w' w.heap.size (fun _ => True) v7_ r8 ∧ Below w.heap.size w w' := by
 have hu29 := Try.underlying29
 have hu23 := Try.underlying23
 have hu25 := Try.underlying25
 have hu38 := Try.underlying38
 have hu40 := Try.underlying40
 have HB := Aside0.mk (Below.refl w.heap.size w)
 have H : (some (1, 0, 1, 1, 0, 1, (([(⟨(⟨#[97]⟩ : ByteArray), (⟨0, 0⟩ : S25)⟩ : S38)] : List (S38))), (([(⟨(⟨#[98]⟩ : ByteArray), (⟨#[49]⟩ : ByteArray)⟩ : S40)] : List (S40))), false)) = some (r1, r2, r3, r4, r5, r6, r7, r8, r9) := h
 clear h
 obtain ⟨y175, hy175⟩ : ∃ y_ : List (S38), y_ = (([(⟨(⟨#[97]⟩ : ByteArray), (⟨0, 0⟩ : S25)⟩ : S38)] : List (S38))) := ⟨_, rfl⟩
 replace H : (some (1, 0, 1, 1, 0, 1, y175, (([(⟨(⟨#[98]⟩ : ByteArray), (⟨#[49]⟩ : ByteArray)⟩ : S40)] : List (S40))), false)) = some (r1, r2, r3, r4, r5, r6, r7, r8, r9) := by first | (rw [hy175]; with_reducible exact H) | (have H2_ := (Option.bind_some _ _).symm.trans H; rw [hy175]; with_reducible exact H2_) | (have H2_ := (Option.bind_some _ _).symm.trans H; with_reducible exact H2_) | with_reducible exact H | (rw [hy175]; exact H) | exact H
 have Ny175 := Aside0.mk hy175
 clear hy175
 obtain ⟨y178, hy178⟩ : ∃ y_ : List (S40), y_ = (([(⟨(⟨#[98]⟩ : ByteArray), (⟨#[49]⟩ : ByteArray)⟩ : S40)] : List (S40))) := ⟨_, rfl⟩
 replace H : (some (1, 0, 1, 1, 0, 1, y175, y178, false)) = some (r1, r2, r3, r4, r5, r6, r7, r8, r9) := by first | (rw [hy178]; with_reducible exact H) | (have H2_ := (Option.bind_some _ _).symm.trans H; rw [hy178]; with_reducible exact H2_) | (have H2_ := (Option.bind_some _ _).symm.trans H; with_reducible exact H2_) | with_reducible exact H | (rw [hy178]; exact H) | exact H
 have Ny178 := Aside0.mk hy178
 clear hy178
 simp only [Option.some.injEq, Prod.mk.injEq] at H
 obtain ⟨rfl, rfl, rfl, rfl, rfl, rfl, rfl, rfl, rfl⟩ := H
 go_enter Try.func23, Try.ntmps23
 go_wp2_with (first | ((with_reducible refine gate_dst (N := 0) rfl ?_); refine box_event ?hg (N := 0) ?hd (cs := #[.int .i64 0, .int .i64 0, .int .i64 0, .int .i64 0, .int .i64 0, .int .i64 0, .slice none 0 0, .slice none 0 0, .bool false]) (t := 29) ?hr ?_; (case hd => rfl); (case hg => rfl); (case hr => first | (go_simp; done) | (go_simp; rfl)); intro gb174 hg w1 hbox hb; have n0_ := Aside0.mk (below_step lb_ hb); have n1_ := Aside0.mk (hbox); have n2_ := Aside0.mk ((by rw [hg]; exact (below_size lb_) : w.heap.size ≤ gb174)); have n3_ := Aside0.mk ((by rw [hg]; exact (below_size lb_) : w.heap.size ≤ gb174)); clear HB; have HB := n0_; have BK174 := n1_; have GW174 := n2_; have GE174 := n3_; clear n0_ n1_ n2_ n3_; clear hb hbox hg) | ((with_reducible refine gate_dst (N := 4) rfl ?_); refine Kd.R_lit k38 _ 38 ?hg (N := 4) ?hd (xs := ([(⟨(⟨#[97]⟩ : ByteArray), (⟨0, 0⟩ : S25)⟩ : S38)] : List (S38))) (inner := [.string (⟨#[97]⟩ : ByteArray), .int .i64 0, .int .i64 0]) (ok := fun _ => True) (okp := fun _ => True) ?hr ?hp (fun _ hk => hk) trivial (Below.refl _ _) (Nat.le_refl _) (by simp) ?_; (case hd => rfl); (case hg => rfl); (case hr => first | (go_simp; done) | (go_simp; rfl)); (case hp => exact (Reps.c3 (show Kd.M k38 _ _ _ (⟨(⟨#[97]⟩ : ByteArray), (⟨0, 0⟩ : S25)⟩ : S38) [.string (⟨#[97]⟩ : ByteArray), .int .i64 0, .int .i64 0] from (k38_mkM _ _ _ (⟨(⟨#[97]⟩ : ByteArray), (⟨0, 0⟩ : S25)⟩ : S38) )) (Reps.none _ _))); intro v176 w2 ho3 hb hg_ hnew_; clear hg_ hnew_; (first | rw [← Ny175.out] at ho3 | (simp only [Int.reduceToNat] at ho3; rw [← Ny175.out] at ho3)); have n0_ := Aside0.mk (Kd.R_lower ho3 (below_size (by repeat (first | (with_reducible first | exact HB.out | apply below_alloc | apply pw_below_drewN | apply below_drew1 | refine below_set ?_ GE174.out) | exact HB.out)))); have n1_ := Aside0.mk (blk_below (kb_ BK174.out) hb); have n2_ := Aside0.mk (below_step (by repeat (first | (with_reducible first | exact HB.out | apply below_alloc | apply pw_below_drewN | apply below_drew1 | refine below_set ?_ GE174.out) | exact HB.out)) hb); clear BK174; clear HB; have HO177 := n0_; have BK174 := n1_; have HB := n2_; clear n0_ n1_ n2_; clear hb ho3) | ((with_reducible refine gate_dst (N := 6) rfl ?_); refine Kd.R_lit k40 _ 40 ?hg (N := 6) ?hd (xs := ([(⟨(⟨#[98]⟩ : ByteArray), (⟨#[49]⟩ : ByteArray)⟩ : S40)] : List (S40))) (inner := [.string (⟨#[98]⟩ : ByteArray), .string (⟨#[49]⟩ : ByteArray)]) (ok := fun _ => True) (okp := fun _ => True) ?hr ?hp (fun _ hk => hk) trivial (Below.refl _ _) (Nat.le_refl _) (by simp) ?_; (case hd => rfl); (case hg => rfl); (case hr => first | (go_simp; done) | (go_simp; rfl)); (case hp => exact (Reps.c2 (show Kd.M k40 _ _ _ (⟨(⟨#[98]⟩ : ByteArray), (⟨#[49]⟩ : ByteArray)⟩ : S40) [.string (⟨#[98]⟩ : ByteArray), .string (⟨#[49]⟩ : ByteArray)] from (k40_mkM _ _ _ (⟨(⟨#[98]⟩ : ByteArray), (⟨#[49]⟩ : ByteArray)⟩ : S40) )) (Reps.none _ _))); intro v179 w4 ho5 hb hg_ hnew_; clear hg_ hnew_; (first | rw [← Ny178.out] at ho5 | (simp only [Int.reduceToNat] at ho5; rw [← Ny178.out] at ho5)); have n0_ := Aside0.mk (Kd.R_below (kr_ HO177.out) hb); have n1_ := Aside0.mk (Kd.R_lower ho5 (below_size (by repeat (first | (with_reducible first | exact HB.out | apply below_alloc | apply pw_below_drewN | apply below_drew1 | refine below_set ?_ GE174.out) | exact HB.out)))); have n2_ := Aside0.mk (blk_below (kb_ BK174.out) hb); have n3_ := Aside0.mk (below_step (by repeat (first | (with_reducible first | exact HB.out | apply below_alloc | apply pw_below_drewN | apply below_drew1 | refine below_set ?_ GE174.out) | exact HB.out)) hb); clear HO177; clear BK174; clear HB; have HO177 := n0_; have HO180 := n1_; have BK174 := n2_; have HB := n3_; clear n0_ n1_ n2_ n3_; clear hb ho5; obtain ⟨Ao6, co6, eo6⟩ := Kd.R_slice HO180.out; subst eo6; obtain ⟨Ao7, co7, eo7⟩ := Kd.R_slice HO177.out; subst eo7; refine blk9_ BK174.out fun hcz8_0 hcz8_1 hcz8_2 hcz8_3 hcz8_4 hcz8_5 hcz8_6 hcz8_7 hcz8_8 hfz8_0 hfz8_1 hfz8_2 hfz8_3 hfz8_4 hfz8_5 hfz8_6 hfz8_7 hfz8_8 => ?_) | ((with_reducible refine gate_store (t := 29) (p := 0) rfl ?_); refine store_event (t := 29) (p := 0) (v := ?vo_w9) (w1 := (((((((((w4.setCell ⟨gb174, 0, none⟩ (.int .i64 1)).setCell ⟨gb174, 1, none⟩ (.int .i64 0)).setCell ⟨gb174, 2, none⟩ (.int .i64 1)).setCell ⟨gb174, 3, none⟩ (.int .i64 1)).setCell ⟨gb174, 4, none⟩ (.int .i64 0)).setCell ⟨gb174, 5, none⟩ (.int .i64 1)).setCell ⟨gb174, 6, none⟩ (.slice Ao7 y175.length co7)).setCell ⟨gb174, 7, none⟩ (.slice Ao6 y178.length co6)).setCell ⟨gb174, 8, none⟩ (.bool false))) ?hg ?ho ?hn ?hr ?_; (case ho => rfl); (case hg => rfl); (case hn => rfl); (case hr => first | (go_simp; done) | (go_simp; rfl)); intro w9 hw; have n0_ : Aside0 (Kd.R k38 38 w9 w.heap.size (fun _ => True) (.slice Ao7 y175.length co7) y175) := ⟨(by rw [hw]; exact (by (with_reducible repeat (first | apply Kd.R_alloc | apply Kd.R_drewN | apply Kd.R_drew)); exact Kd.R_mono (Kd.R_far (p := ⟨gb174, 8, none⟩) (Kd.R_far (p := ⟨gb174, 7, none⟩) (Kd.R_far (p := ⟨gb174, 6, none⟩) (Kd.R_far (p := ⟨gb174, 5, none⟩) (Kd.R_far (p := ⟨gb174, 4, none⟩) (Kd.R_far (p := ⟨gb174, 3, none⟩) (Kd.R_far (p := ⟨gb174, 2, none⟩) (Kd.R_far (p := ⟨gb174, 1, none⟩) (Kd.R_far (p := ⟨gb174, 0, none⟩) (Kd.R_types HO177.out BK174.out (by decide)) (fun _ hk => hk.2) (.int .i64 1)) (fun _ hk => hk.2) (.int .i64 0)) (fun _ hk => hk.2) (.int .i64 1)) (fun _ hk => hk.2) (.int .i64 1)) (fun _ hk => hk.2) (.int .i64 0)) (fun _ hk => hk.2) (.int .i64 1)) (fun _ hk => hk.2) (.slice Ao7 y175.length co7)) (fun _ hk => hk.2) (.slice Ao6 y178.length co6)) (fun _ hk => hk.2) (.bool false)) (fun _ hk => trivial)))⟩; have n1_ : Aside0 (Kd.R k40 40 w9 w.heap.size (fun _ => True) (.slice Ao6 y178.length co6) y178) := ⟨(by rw [hw]; exact (by (with_reducible repeat (first | apply Kd.R_alloc | apply Kd.R_drewN | apply Kd.R_drew)); exact Kd.R_mono (Kd.R_far (p := ⟨gb174, 8, none⟩) (Kd.R_far (p := ⟨gb174, 7, none⟩) (Kd.R_far (p := ⟨gb174, 6, none⟩) (Kd.R_far (p := ⟨gb174, 5, none⟩) (Kd.R_far (p := ⟨gb174, 4, none⟩) (Kd.R_far (p := ⟨gb174, 3, none⟩) (Kd.R_far (p := ⟨gb174, 2, none⟩) (Kd.R_far (p := ⟨gb174, 1, none⟩) (Kd.R_far (p := ⟨gb174, 0, none⟩) (Kd.R_types HO180.out BK174.out (by decide)) (fun _ hk => hk.2) (.int .i64 1)) (fun _ hk => hk.2) (.int .i64 0)) (fun _ hk => hk.2) (.int .i64 1)) (fun _ hk => hk.2) (.int .i64 1)) (fun _ hk => hk.2) (.int .i64 0)) (fun _ hk => hk.2) (.int .i64 1)) (fun _ hk => hk.2) (.slice Ao7 y175.length co7)) (fun _ hk => hk.2) (.slice Ao6 y178.length co6)) (fun _ hk => hk.2) (.bool false)) (fun _ hk => trivial)))⟩; have n2_ : Aside0 (w9.heap[gb174]? = some (.cells #[.int .i64 1, .int .i64 0, .int .i64 1, .int .i64 1, .int .i64 0, .int .i64 1, .slice Ao7 y175.length co7, .slice Ao6 y178.length co6, .bool false] 29 (0, 0))) := ⟨(by rw [hw]; exact (by (with_reducible repeat (first | refine blk_drewN ?_ _ | refine blk_drew ?_ | refine blk_alloc ?_ _)); refine blk_put (cs := #[.int .i64 1, .int .i64 0, .int .i64 1, .int .i64 1, .int .i64 0, .int .i64 1, .slice Ao7 y175.length co7, .slice Ao6 y178.length co6, .bool false]) ?_ 8 _ rfl; (with_reducible repeat (first | refine blk_drewN ?_ _ | refine blk_drew ?_ | refine blk_alloc ?_ _)); refine blk_put (cs := #[.int .i64 1, .int .i64 0, .int .i64 1, .int .i64 1, .int .i64 0, .int .i64 1, .slice Ao7 y175.length co7, .slice none 0 0, .bool false]) ?_ 7 _ rfl; (with_reducible repeat (first | refine blk_drewN ?_ _ | refine blk_drew ?_ | refine blk_alloc ?_ _)); refine blk_put (cs := #[.int .i64 1, .int .i64 0, .int .i64 1, .int .i64 1, .int .i64 0, .int .i64 1, .slice none 0 0, .slice none 0 0, .bool false]) ?_ 6 _ rfl; (with_reducible repeat (first | refine blk_drewN ?_ _ | refine blk_drew ?_ | refine blk_alloc ?_ _)); refine blk_put (cs := #[.int .i64 1, .int .i64 0, .int .i64 1, .int .i64 1, .int .i64 0, .int .i64 0, .slice none 0 0, .slice none 0 0, .bool false]) ?_ 5 _ rfl; (with_reducible repeat (first | refine blk_drewN ?_ _ | refine blk_drew ?_ | refine blk_alloc ?_ _)); refine blk_put (cs := #[.int .i64 1, .int .i64 0, .int .i64 1, .int .i64 1, .int .i64 0, .int .i64 0, .slice none 0 0, .slice none 0 0, .bool false]) ?_ 4 _ rfl; (with_reducible repeat (first | refine blk_drewN ?_ _ | refine blk_drew ?_ | refine blk_alloc ?_ _)); refine blk_put (cs := #[.int .i64 1, .int .i64 0, .int .i64 1, .int .i64 0, .int .i64 0, .int .i64 0, .slice none 0 0, .slice none 0 0, .bool false]) ?_ 3 _ rfl; (with_reducible repeat (first | refine blk_drewN ?_ _ | refine blk_drew ?_ | refine blk_alloc ?_ _)); refine blk_put (cs := #[.int .i64 1, .int .i64 0, .int .i64 0, .int .i64 0, .int .i64 0, .int .i64 0, .slice none 0 0, .slice none 0 0, .bool false]) ?_ 2 _ rfl; (with_reducible repeat (first | refine blk_drewN ?_ _ | refine blk_drew ?_ | refine blk_alloc ?_ _)); refine blk_put (cs := #[.int .i64 1, .int .i64 0, .int .i64 0, .int .i64 0, .int .i64 0, .int .i64 0, .slice none 0 0, .slice none 0 0, .bool false]) ?_ 1 _ rfl; (with_reducible repeat (first | refine blk_drewN ?_ _ | refine blk_drew ?_ | refine blk_alloc ?_ _)); refine blk_put (cs := #[.int .i64 0, .int .i64 0, .int .i64 0, .int .i64 0, .int .i64 0, .int .i64 0, .slice none 0 0, .slice none 0 0, .bool false]) ?_ 0 _ rfl; (with_reducible repeat (first | refine blk_drewN ?_ _ | refine blk_drew ?_ | refine blk_alloc ?_ _)); exact BK174.out))⟩; have n3_ : Aside0 (Below w.heap.size w w9) := ⟨(by rw [hw]; exact (by repeat (first | (with_reducible first | exact HB.out | apply below_alloc | apply pw_below_drewN | apply below_drew1 | refine below_set ?_ GE174.out) | exact HB.out)))⟩; clear hw; clear HO177; clear HO180; clear BK174; clear HB; have HO177 := n0_; have HO180 := n1_; have BK174 := n2_; have HB := n3_; clear n0_ n1_ n2_ n3_))
 refine bodyPost_ret (results_cell_row rfl _ _ gb174 29 #[.int .i64 1, .int .i64 0, .int .i64 1, .int .i64 1, .int .i64 0, .int .i64 1, .slice Ao7 y175.length co7, .slice Ao6 y178.length co6, .bool false] (0, 0) _ rfl (kb_ BK174.out) Try.underlying29 rfl (by kernel_rfl)) rfl ?_
 exact ⟨_, _, by first | rfl | (simp [errW_none, errW_some] <;> rfl) | (simp [*, errW_none, errW_some] <;> rfl), by (with_reducible repeat (first | apply Kd.R_alloc | apply Kd.R_drewN | apply Kd.R_drew)); exact HO177.out, by (with_reducible repeat (first | apply Kd.R_alloc | apply Kd.R_drewN | apply Kd.R_drew)); exact HO180.out, by repeat (first | (with_reducible first | exact HB.out | apply below_alloc | apply pw_below_drewN | apply below_drew1 | refine below_set ?_ GE174.out) | exact HB.out)⟩
end Go.Proofs.Ytnjeeedndnfglaa.X
end
section
namespace Go.Proofs.Ytnjeeedndnfglaa.X
open Go.RowKit Go.Proofs.YtnjeeedndnfglaaW.PrintWords Go.Proofs.YtnjeeedndnfglaaW.PrintLast Go.Proofs.YtnjeeedndnfglaaW.PrintMore
attribute [local go_sem] max2_int min2_int max_two min_two max_three min_three max_four min_four   -- for this text's walks alone
set_option linter.unusedVariables false
set_option linter.unusedSimpArgs false
/-! ### althinglaw05_awake: function 9 -/
def althinglaw05_awake.f (k : Nat)  : Option (Bool) := (althinglaw05_some.f).bind fun bt181 => ((command_Right.f k bt181.1 bt181.2.1 bt181.2.2.1 bt181.2.2.2.1 bt181.2.2.2.2.1 bt181.2.2.2.2.2.1 bt181.2.2.2.2.2.2.1 bt181.2.2.2.2.2.2.2.1 bt181.2.2.2.2.2.2.2.2).bind fun t194 => (if t194 = true then ((althinglaw05_some.f).bind fun bt195 => ((althinglaw05_some.f).bind fun bt208 => ((command_Interfere.f k bt195.1 bt195.2.1 bt195.2.2.1 bt195.2.2.2.1 bt195.2.2.2.2.1 bt195.2.2.2.2.2.1 bt195.2.2.2.2.2.2.1 bt195.2.2.2.2.2.2.2.1 bt195.2.2.2.2.2.2.2.2 bt208.1 bt208.2.1 bt208.2.2.1 bt208.2.2.2.1 bt208.2.2.2.2.1 bt208.2.2.2.2.2.1 bt208.2.2.2.2.2.2.1 bt208.2.2.2.2.2.2.2.1 bt208.2.2.2.2.2.2.2.2).bind fun t221 => (if t221 = true then ((althinglaw05_some.f).bind fun bt222 => ((command_Keys.f k bt222.1 bt222.2.1 bt222.2.2.1 bt222.2.2.2.1 bt222.2.2.2.2.1 bt222.2.2.2.2.2.1 bt222.2.2.2.2.2.2.1 bt222.2.2.2.2.2.2.2.1 bt222.2.2.2.2.2.2.2.2).bind fun t235 => (if (t235.length : Int) = 2 then ((althinglaw05_some.f).bind fun bt238 => ((althinglaw05_some.f).bind fun bt251 => ((command_Same.f k bt238.1 bt238.2.1 bt238.2.2.1 bt238.2.2.2.1 bt238.2.2.2.2.1 bt238.2.2.2.2.2.1 bt238.2.2.2.2.2.2.1 bt238.2.2.2.2.2.2.2.1 bt238.2.2.2.2.2.2.2.2 bt251.1 bt251.2.1 bt251.2.2.1 bt251.2.2.2.1 bt251.2.2.2.2.1 bt251.2.2.2.2.2.1 bt251.2.2.2.2.2.2.1 bt251.2.2.2.2.2.2.2.1 bt251.2.2.2.2.2.2.2.2).bind fun t264 => (some t264)))) else (some false)))) else (some false))))) else (some false)))
set_option maxHeartbeats 8000000 in
set_option maxRecDepth 100000 in
theorem althinglaw05_awake.calls (k : Nat)  (r : Bool) (w : World) (h : althinglaw05_awake.f k  = some r) :
 Calls Try.prog 9 #[] w fun e w' => e = .returned (.bool r) ∧ Below w.heap.size w w' := by
 have HB := Aside0.mk (Below.refl w.heap.size w)
 have H : ((althinglaw05_some.f).bind fun bt181 => ((command_Right.f k bt181.1 bt181.2.1 bt181.2.2.1 bt181.2.2.2.1 bt181.2.2.2.2.1 bt181.2.2.2.2.2.1 bt181.2.2.2.2.2.2.1 bt181.2.2.2.2.2.2.2.1 bt181.2.2.2.2.2.2.2.2).bind fun t194 => (if t194 = true then ((althinglaw05_some.f).bind fun bt195 => ((althinglaw05_some.f).bind fun bt208 => ((command_Interfere.f k bt195.1 bt195.2.1 bt195.2.2.1 bt195.2.2.2.1 bt195.2.2.2.2.1 bt195.2.2.2.2.2.1 bt195.2.2.2.2.2.2.1 bt195.2.2.2.2.2.2.2.1 bt195.2.2.2.2.2.2.2.2 bt208.1 bt208.2.1 bt208.2.2.1 bt208.2.2.2.1 bt208.2.2.2.2.1 bt208.2.2.2.2.2.1 bt208.2.2.2.2.2.2.1 bt208.2.2.2.2.2.2.2.1 bt208.2.2.2.2.2.2.2.2).bind fun t221 => (if t221 = true then ((althinglaw05_some.f).bind fun bt222 => ((command_Keys.f k bt222.1 bt222.2.1 bt222.2.2.1 bt222.2.2.2.1 bt222.2.2.2.2.1 bt222.2.2.2.2.2.1 bt222.2.2.2.2.2.2.1 bt222.2.2.2.2.2.2.2.1 bt222.2.2.2.2.2.2.2.2).bind fun t235 => (if (t235.length : Int) = 2 then ((althinglaw05_some.f).bind fun bt238 => ((althinglaw05_some.f).bind fun bt251 => ((command_Same.f k bt238.1 bt238.2.1 bt238.2.2.1 bt238.2.2.2.1 bt238.2.2.2.2.1 bt238.2.2.2.2.2.1 bt238.2.2.2.2.2.2.1 bt238.2.2.2.2.2.2.2.1 bt238.2.2.2.2.2.2.2.2 bt251.1 bt251.2.1 bt251.2.2.1 bt251.2.2.2.1 bt251.2.2.2.2.1 bt251.2.2.2.2.2.1 bt251.2.2.2.2.2.2.1 bt251.2.2.2.2.2.2.2.1 bt251.2.2.2.2.2.2.2.2).bind fun t264 => (some t264)))) else (some false)))) else (some false))))) else (some false)))) = some r := h
 clear h
 replace H := Option.bind_eq_some_iff.mp H
 obtain ⟨⟨t181, t182, t183, t184, t185, t186, t187, t190, t193⟩, A10, H⟩ := H
 replace H : ((command_Right.f k t181 t182 t183 t184 t185 t186 t187 t190 t193).bind fun t194 => (if t194 = true then ((althinglaw05_some.f).bind fun bt195 => ((althinglaw05_some.f).bind fun bt208 => ((command_Interfere.f k bt195.1 bt195.2.1 bt195.2.2.1 bt195.2.2.2.1 bt195.2.2.2.2.1 bt195.2.2.2.2.2.1 bt195.2.2.2.2.2.2.1 bt195.2.2.2.2.2.2.2.1 bt195.2.2.2.2.2.2.2.2 bt208.1 bt208.2.1 bt208.2.2.1 bt208.2.2.2.1 bt208.2.2.2.2.1 bt208.2.2.2.2.2.1 bt208.2.2.2.2.2.2.1 bt208.2.2.2.2.2.2.2.1 bt208.2.2.2.2.2.2.2.2).bind fun t221 => (if t221 = true then ((althinglaw05_some.f).bind fun bt222 => ((command_Keys.f k bt222.1 bt222.2.1 bt222.2.2.1 bt222.2.2.2.1 bt222.2.2.2.2.1 bt222.2.2.2.2.2.1 bt222.2.2.2.2.2.2.1 bt222.2.2.2.2.2.2.2.1 bt222.2.2.2.2.2.2.2.2).bind fun t235 => (if (t235.length : Int) = 2 then ((althinglaw05_some.f).bind fun bt238 => ((althinglaw05_some.f).bind fun bt251 => ((command_Same.f k bt238.1 bt238.2.1 bt238.2.2.1 bt238.2.2.2.1 bt238.2.2.2.2.1 bt238.2.2.2.2.2.1 bt238.2.2.2.2.2.2.1 bt238.2.2.2.2.2.2.2.1 bt238.2.2.2.2.2.2.2.2 bt251.1 bt251.2.1 bt251.2.2.1 bt251.2.2.2.1 bt251.2.2.2.2.1 bt251.2.2.2.2.2.1 bt251.2.2.2.2.2.2.1 bt251.2.2.2.2.2.2.2.1 bt251.2.2.2.2.2.2.2.2).bind fun t264 => (some t264)))) else (some false)))) else (some false))))) else (some false))) = some r := H
 have A1 := Aside0.mk A10
 clear A10
 obtain ⟨t194, A2, H⟩ := bs_ H
 by_cases c3 : t194 = true
 · subst c3
   rw [if_pos rfl] at H
   replace H := Option.bind_eq_some_iff.mp H
   obtain ⟨⟨t195, t196, t197, t198, t199, t200, t201, t204, t207⟩, A40, H⟩ := H
   replace H : ((althinglaw05_some.f).bind fun bt208 => ((command_Interfere.f k t195 t196 t197 t198 t199 t200 t201 t204 t207 bt208.1 bt208.2.1 bt208.2.2.1 bt208.2.2.2.1 bt208.2.2.2.2.1 bt208.2.2.2.2.2.1 bt208.2.2.2.2.2.2.1 bt208.2.2.2.2.2.2.2.1 bt208.2.2.2.2.2.2.2.2).bind fun t221 => (if t221 = true then ((althinglaw05_some.f).bind fun bt222 => ((command_Keys.f k bt222.1 bt222.2.1 bt222.2.2.1 bt222.2.2.2.1 bt222.2.2.2.2.1 bt222.2.2.2.2.2.1 bt222.2.2.2.2.2.2.1 bt222.2.2.2.2.2.2.2.1 bt222.2.2.2.2.2.2.2.2).bind fun t235 => (if (t235.length : Int) = 2 then ((althinglaw05_some.f).bind fun bt238 => ((althinglaw05_some.f).bind fun bt251 => ((command_Same.f k bt238.1 bt238.2.1 bt238.2.2.1 bt238.2.2.2.1 bt238.2.2.2.2.1 bt238.2.2.2.2.2.1 bt238.2.2.2.2.2.2.1 bt238.2.2.2.2.2.2.2.1 bt238.2.2.2.2.2.2.2.2 bt251.1 bt251.2.1 bt251.2.2.1 bt251.2.2.2.1 bt251.2.2.2.2.1 bt251.2.2.2.2.2.1 bt251.2.2.2.2.2.2.1 bt251.2.2.2.2.2.2.2.1 bt251.2.2.2.2.2.2.2.2).bind fun t264 => (some t264)))) else (some false)))) else (some false)))) = some r := H
   have A4 := Aside0.mk A40
   clear A40
   replace H := Option.bind_eq_some_iff.mp H
   obtain ⟨⟨t208, t209, t210, t211, t212, t213, t214, t217, t220⟩, A50, H⟩ := H
   replace H : ((command_Interfere.f k t195 t196 t197 t198 t199 t200 t201 t204 t207 t208 t209 t210 t211 t212 t213 t214 t217 t220).bind fun t221 => (if t221 = true then ((althinglaw05_some.f).bind fun bt222 => ((command_Keys.f k bt222.1 bt222.2.1 bt222.2.2.1 bt222.2.2.2.1 bt222.2.2.2.2.1 bt222.2.2.2.2.2.1 bt222.2.2.2.2.2.2.1 bt222.2.2.2.2.2.2.2.1 bt222.2.2.2.2.2.2.2.2).bind fun t235 => (if (t235.length : Int) = 2 then ((althinglaw05_some.f).bind fun bt238 => ((althinglaw05_some.f).bind fun bt251 => ((command_Same.f k bt238.1 bt238.2.1 bt238.2.2.1 bt238.2.2.2.1 bt238.2.2.2.2.1 bt238.2.2.2.2.2.1 bt238.2.2.2.2.2.2.1 bt238.2.2.2.2.2.2.2.1 bt238.2.2.2.2.2.2.2.2 bt251.1 bt251.2.1 bt251.2.2.1 bt251.2.2.2.1 bt251.2.2.2.2.1 bt251.2.2.2.2.2.1 bt251.2.2.2.2.2.2.1 bt251.2.2.2.2.2.2.2.1 bt251.2.2.2.2.2.2.2.2).bind fun t264 => (some t264)))) else (some false)))) else (some false))) = some r := H
   have A5 := Aside0.mk A50
   clear A50
   obtain ⟨t221, A6, H⟩ := bs_ H
   by_cases c7 : t221 = true
   · subst c7
     rw [if_pos rfl] at H
     replace H := Option.bind_eq_some_iff.mp H
     obtain ⟨⟨t222, t223, t224, t225, t226, t227, t228, t231, t234⟩, A80, H⟩ := H
     replace H : ((command_Keys.f k t222 t223 t224 t225 t226 t227 t228 t231 t234).bind fun t235 => (if (t235.length : Int) = 2 then ((althinglaw05_some.f).bind fun bt238 => ((althinglaw05_some.f).bind fun bt251 => ((command_Same.f k bt238.1 bt238.2.1 bt238.2.2.1 bt238.2.2.2.1 bt238.2.2.2.2.1 bt238.2.2.2.2.2.1 bt238.2.2.2.2.2.2.1 bt238.2.2.2.2.2.2.2.1 bt238.2.2.2.2.2.2.2.2 bt251.1 bt251.2.1 bt251.2.2.1 bt251.2.2.2.1 bt251.2.2.2.2.1 bt251.2.2.2.2.2.1 bt251.2.2.2.2.2.2.1 bt251.2.2.2.2.2.2.2.1 bt251.2.2.2.2.2.2.2.2).bind fun t264 => (some t264)))) else (some false))) = some r := H
     have A8 := Aside0.mk A80
     clear A80
     obtain ⟨t235, A9, H⟩ := bs_ H
     by_cases c10 : (t235.length : Int) = 2
     · rw [if_pos c10] at H
       have c10b0 : ((t235.length : Int) == 2) = true := beq_iff_eq.mpr c10
       have c10b1 : ((t235.length : Int) != 2) = false := bne_eq_false_iff_eq.mpr c10
       clear c10
       replace H := Option.bind_eq_some_iff.mp H
       obtain ⟨⟨t238, t239, t240, t241, t242, t243, t244, t247, t250⟩, A110, H⟩ := H
       replace H : ((althinglaw05_some.f).bind fun bt251 => ((command_Same.f k t238 t239 t240 t241 t242 t243 t244 t247 t250 bt251.1 bt251.2.1 bt251.2.2.1 bt251.2.2.2.1 bt251.2.2.2.2.1 bt251.2.2.2.2.2.1 bt251.2.2.2.2.2.2.1 bt251.2.2.2.2.2.2.2.1 bt251.2.2.2.2.2.2.2.2).bind fun t264 => (some t264))) = some r := H
       have A11 := Aside0.mk A110
       clear A110
       replace H := Option.bind_eq_some_iff.mp H
       obtain ⟨⟨t251, t252, t253, t254, t255, t256, t257, t260, t263⟩, A120, H⟩ := H
       replace H : ((command_Same.f k t238 t239 t240 t241 t242 t243 t244 t247 t250 t251 t252 t253 t254 t255 t256 t257 t260 t263).bind fun t264 => (some t264)) = some r := H
       have A12 := Aside0.mk A120
       clear A120
       obtain ⟨t264, A13, H⟩ := bs_ H
       obtain rfl := Option.some.inj H
       go_enter Try.func9, Try.ntmps9
       go_wp2_with (first | ((with_reducible refine gate_callee (f := 23) rfl ?_); refine goesL_ (some 1) rfl rfl Try.func23 (by kernel_rfl) rfl #[] rfl (by (try simp only [List.map_toArray, List.map_cons, List.map_nil]); first | done | rfl | (simp only [List.length_drop, List.length_take]; rfl)) ?_; (with_reducible refine (althinglaw05_some.calls  t181 t182 t183 t184 t185 t186 t187 t190 t193 _ A1.out).mono ?_); rintro e w14 ⟨v188, v191, rfl, ho0, ho1, hb⟩; refine ⟨_, rfl, ?_⟩; have n0_ := Aside0.mk (Kd.R_lower ho0 (below_size lb_)); have n1_ := Aside0.mk (Kd.R_lower ho1 (below_size lb_)); have n2_ := Aside0.mk (below_step lb_ hb); clear HB; have HO189 := n0_; have HO192 := n1_; have HB := n2_; clear n0_ n1_ n2_; (try clear hb); (try clear hb2); (try clear hk); (try clear hi); (try clear ho0); (try clear ho1); obtain ⟨Ao15, co15, eo15⟩ := Kd.R_slice HO189.out; subst eo15; obtain ⟨Ao16, co16, eo16⟩ := Kd.R_slice HO192.out; subst eo16) | ((with_reducible refine gate_callee (f := 14) rfl ?_); refine goesL_ (some 2) rfl rfl Try.func14 (by kernel_rfl) rfl #[.agg #[.int .i64 t181, .int .i64 t182, .int .i64 t183, .int .i64 t184, .int .i64 t185, .int .i64 t186, .slice Ao15 t187.length co15, .slice Ao16 t190.length co16, .bool t193]] rfl (by (try simp only [List.map_toArray, List.map_cons, List.map_nil]); first | done | rfl | (simp only [List.length_drop, List.length_take]; rfl)) ?_; (with_reducible refine (command_Right.calls k t181 t182 t183 t184 t185 t186 _ _ t187 _ _ t190 t193 true _ ?side1 ?side2 ?side3 ?side4 A2.out).mono ?_); (case side1 => repeat (first | exact (Kd.R_reads' HO189.out).2.2 | (with_reducible refine Kd.C_alloc ?_ _) | (with_reducible refine Kd.C_drewN ?_ _) | (with_reducible refine Kd.C_drew ?_))); (case side2 => exact (Kd.R_reads' HO189.out).2.1); (case side3 => repeat (first | exact (Kd.R_reads' HO192.out).2.2 | (with_reducible refine Kd.C_alloc ?_ _) | (with_reducible refine Kd.C_drewN ?_ _) | (with_reducible refine Kd.C_drew ?_))); (case side4 => exact (Kd.R_reads' HO192.out).2.1); rintro e w17 ⟨rfl, hb⟩; refine ⟨_, rfl, ?_⟩; have n0_ := Aside0.mk (Kd.R_below (kr_ HO189.out) hb); have n1_ := Aside0.mk (Kd.R_below (kr_ HO192.out) hb); have n2_ := Aside0.mk (below_step lb_ hb); clear HO189; clear HO192; clear HB; have HO189 := n0_; have HO192 := n1_; have HB := n2_; clear n0_ n1_ n2_; (try clear hb); (try clear hb2); (try clear hk); (try clear hi)) | ((with_reducible refine gate_dst (N := 4) rfl ?_); (try (refine gate_guard (by rfl) ?_; dsimp only)); (try (refine gate_guard (by rfl) ?_; dsimp only)); refine goesL_ (some 4) rfl rfl Try.func23 (by kernel_rfl) rfl #[] rfl (by (try simp only [List.map_toArray, List.map_cons, List.map_nil]); first | done | rfl) ?_; (with_reducible refine (althinglaw05_some.calls  t195 t196 t197 t198 t199 t200 t201 t204 t207 _ A4.out).mono ?_); rintro e w18 ⟨v202, v205, rfl, ho0, ho1, hb⟩; refine ⟨_, rfl, ?_⟩; have n0_ := Aside0.mk (Kd.R_elder' (kr_ HO189.out) (Kd.R_base ho0) hb); have n1_ := Aside0.mk (Kd.R_elder' (kr_ HO192.out) (Kd.R_base ho1) hb); have n2_ := Aside0.mk (Kd.R_lower (Kd.R_new' ho0 (Kd.R_lt (kr_ HO189.out))) (below_size lb_)); have n3_ := Aside0.mk (Kd.R_lower (Kd.R_new' ho1 (Kd.R_lt (kr_ HO192.out))) (below_size lb_)); have n4_ := Aside0.mk (below_step lb_ hb); clear HO189; clear HO192; clear HB; have HO189 := n0_; have HO192 := n1_; have HO203 := n2_; have HO206 := n3_; have HB := n4_; clear n0_ n1_ n2_ n3_ n4_; (try clear hb); (try clear hb2); (try clear hk); (try clear hi); (try clear ho0); (try clear ho1)) | ((with_reducible refine gate_dst (N := 5) rfl ?_); (try (refine gate_guard (by rfl) ?_; dsimp only)); (try (refine gate_guard (by rfl) ?_; dsimp only)); refine goesL_ (some 5) rfl rfl Try.func23 (by kernel_rfl) rfl #[] rfl (by (try simp only [List.map_toArray, List.map_cons, List.map_nil]); first | done | rfl) ?_; (with_reducible refine (althinglaw05_some.calls  t208 t209 t210 t211 t212 t213 t214 t217 t220 _ A5.out).mono ?_); rintro e w19 ⟨v215, v218, rfl, ho0, ho1, hb⟩; refine ⟨_, rfl, ?_⟩; have n0_ := Aside0.mk (Kd.R_elder' (kr_ HO189.out) (Kd.R_base ho0) hb); have n1_ := Aside0.mk (Kd.R_elder' (kr_ HO192.out) (Kd.R_base ho1) hb); have n2_ := Aside0.mk (Kd.R_elder' (kr_ HO203.out) (Kd.R_base ho0) hb); have n3_ := Aside0.mk (Kd.R_elder' (kr_ HO206.out) (Kd.R_base ho1) hb); have n4_ := Aside0.mk (Kd.R_lower (Kd.R_new' (Kd.R_new' ho0 (Kd.R_lt (kr_ HO189.out))) (Kd.R_lt (kr_ HO203.out))) (below_size lb_)); have n5_ := Aside0.mk (Kd.R_lower (Kd.R_new' (Kd.R_new' ho1 (Kd.R_lt (kr_ HO192.out))) (Kd.R_lt (kr_ HO206.out))) (below_size lb_)); have n6_ := Aside0.mk (below_step lb_ hb); clear HO189; clear HO192; clear HO203; clear HO206; clear HB; have HO189 := n0_; have HO192 := n1_; have HO203 := n2_; have HO206 := n3_; have HO216 := n4_; have HO219 := n5_; have HB := n6_; clear n0_ n1_ n2_ n3_ n4_ n5_ n6_; (try clear hb); (try clear hb2); (try clear hk); (try clear hi); (try clear ho0); (try clear ho1); obtain ⟨Ao20, co20, eo20⟩ := Kd.R_slice HO203.out; subst eo20; obtain ⟨Ao21, co21, eo21⟩ := Kd.R_slice HO206.out; subst eo21; obtain ⟨Ao22, co22, eo22⟩ := Kd.R_slice HO216.out; subst eo22; obtain ⟨Ao23, co23, eo23⟩ := Kd.R_slice HO219.out; subst eo23) | (go_at_call 13; (with_reducible refine (command_Interfere.calls k t195 t196 t197 t198 t199 t200 _ _ t201 _ _ t204 t207 t208 t209 t210 t211 t212 t213 _ _ t214 _ _ t217 t220 true _ ?side1 ?side2 ?side3 ?side4 ?side5 ?side6 ?side7 ?side8 A6.out).mono ?_); (case side1 => repeat (first | exact (Kd.R_reads' HO203.out).2.2 | (with_reducible refine Kd.C_alloc ?_ _) | (with_reducible refine Kd.C_drewN ?_ _) | (with_reducible refine Kd.C_drew ?_))); (case side2 => exact (Kd.R_reads' HO203.out).2.1); (case side3 => repeat (first | exact (Kd.R_reads' HO206.out).2.2 | (with_reducible refine Kd.C_alloc ?_ _) | (with_reducible refine Kd.C_drewN ?_ _) | (with_reducible refine Kd.C_drew ?_))); (case side4 => exact (Kd.R_reads' HO206.out).2.1); (case side5 => repeat (first | exact (Kd.R_reads' HO216.out).2.2 | (with_reducible refine Kd.C_alloc ?_ _) | (with_reducible refine Kd.C_drewN ?_ _) | (with_reducible refine Kd.C_drew ?_))); (case side6 => exact (Kd.R_reads' HO216.out).2.1); (case side7 => repeat (first | exact (Kd.R_reads' HO219.out).2.2 | (with_reducible refine Kd.C_alloc ?_ _) | (with_reducible refine Kd.C_drewN ?_ _) | (with_reducible refine Kd.C_drew ?_))); (case side8 => exact (Kd.R_reads' HO219.out).2.1); rintro e w24 ⟨rfl, hb⟩; have n0_ := Aside0.mk (Kd.R_below (kr_ HO189.out) hb); have n1_ := Aside0.mk (Kd.R_below (kr_ HO192.out) hb); have n2_ := Aside0.mk (Kd.R_below (kr_ HO203.out) hb); have n3_ := Aside0.mk (Kd.R_below (kr_ HO206.out) hb); have n4_ := Aside0.mk (Kd.R_below (kr_ HO216.out) hb); have n5_ := Aside0.mk (Kd.R_below (kr_ HO219.out) hb); have n6_ := Aside0.mk (below_step lb_ hb); clear HO189; clear HO192; clear HO203; clear HO206; clear HO216; clear HO219; clear HB; have HO189 := n0_; have HO192 := n1_; have HO203 := n2_; have HO206 := n3_; have HO216 := n4_; have HO219 := n5_; have HB := n6_; clear n0_ n1_ n2_ n3_ n4_ n5_ n6_; (try clear hb); (try clear hb2); (try clear hk); (try clear hi)) | ((with_reducible refine gate_dst (N := 9) rfl ?_); (try (refine gate_guard (by rfl) ?_; dsimp only)); (try (refine gate_guard (by rfl) ?_; dsimp only)); refine goesL_ (some 9) rfl rfl Try.func23 (by kernel_rfl) rfl #[] rfl (by (try simp only [List.map_toArray, List.map_cons, List.map_nil]); first | done | rfl) ?_; (with_reducible refine (althinglaw05_some.calls  t222 t223 t224 t225 t226 t227 t228 t231 t234 _ A8.out).mono ?_); rintro e w25 ⟨v229, v232, rfl, ho0, ho1, hb⟩; refine ⟨_, rfl, ?_⟩; have n0_ := Aside0.mk (Kd.R_elder' (kr_ HO189.out) (Kd.R_base ho0) hb); have n1_ := Aside0.mk (Kd.R_elder' (kr_ HO192.out) (Kd.R_base ho1) hb); have n2_ := Aside0.mk (Kd.R_elder' (kr_ HO203.out) (Kd.R_base ho0) hb); have n3_ := Aside0.mk (Kd.R_elder' (kr_ HO206.out) (Kd.R_base ho1) hb); have n4_ := Aside0.mk (Kd.R_elder' (kr_ HO216.out) (Kd.R_base ho0) hb); have n5_ := Aside0.mk (Kd.R_elder' (kr_ HO219.out) (Kd.R_base ho1) hb); have n6_ := Aside0.mk (Kd.R_lower (Kd.R_new' (Kd.R_new' (Kd.R_new' ho0 (Kd.R_lt (kr_ HO189.out))) (Kd.R_lt (kr_ HO203.out))) (Kd.R_lt (kr_ HO216.out))) (below_size lb_)); have n7_ := Aside0.mk (Kd.R_lower (Kd.R_new' (Kd.R_new' (Kd.R_new' ho1 (Kd.R_lt (kr_ HO192.out))) (Kd.R_lt (kr_ HO206.out))) (Kd.R_lt (kr_ HO219.out))) (below_size lb_)); have n8_ := Aside0.mk (below_step lb_ hb); clear HO189; clear HO192; clear HO203; clear HO206; clear HO216; clear HO219; clear HB; have HO189 := n0_; have HO192 := n1_; have HO203 := n2_; have HO206 := n3_; have HO216 := n4_; have HO219 := n5_; have HO230 := n6_; have HO233 := n7_; have HB := n8_; clear n0_ n1_ n2_ n3_ n4_ n5_ n6_ n7_ n8_; (try clear hb); (try clear hb2); (try clear hk); (try clear hi); (try clear ho0); (try clear ho1); obtain ⟨Ao26, co26, eo26⟩ := Kd.R_slice HO230.out; subst eo26; obtain ⟨Ao27, co27, eo27⟩ := Kd.R_slice HO233.out; subst eo27) | (go_at_call 24; (with_reducible refine (command_Keys.calls k t222 t223 t224 t225 t226 t227 _ _ t228 _ _ t231 t234 t235 _ ?side1 ?side2 ?side3 ?side4 A9.out).mono ?_); (case side1 => repeat (first | exact (Kd.R_reads' HO230.out).2.2 | (with_reducible refine Kd.C_alloc ?_ _) | (with_reducible refine Kd.C_drewN ?_ _) | (with_reducible refine Kd.C_drew ?_))); (case side2 => exact (Kd.R_reads' HO230.out).2.1); (case side3 => repeat (first | exact (Kd.R_reads' HO233.out).2.2 | (with_reducible refine Kd.C_alloc ?_ _) | (with_reducible refine Kd.C_drewN ?_ _) | (with_reducible refine Kd.C_drew ?_))); (case side4 => exact (Kd.R_reads' HO233.out).2.1); rintro e w28 ⟨v236, rfl, ho0, hb⟩; have n0_ := Aside0.mk (Kd.R_below (kr_ HO189.out) hb); have n1_ := Aside0.mk (Kd.R_below (kr_ HO192.out) hb); have n2_ := Aside0.mk (Kd.R_below (kr_ HO203.out) hb); have n3_ := Aside0.mk (Kd.R_below (kr_ HO206.out) hb); have n4_ := Aside0.mk (Kd.R_below (kr_ HO216.out) hb); have n5_ := Aside0.mk (Kd.R_below (kr_ HO219.out) hb); have n6_ := Aside0.mk (Kd.R_below (kr_ HO230.out) hb); have n7_ := Aside0.mk (Kd.R_below (kr_ HO233.out) hb); have n8_ := Aside0.mk (Kd.R_lower ho0 (below_size lb_)); have n9_ := Aside0.mk (below_step lb_ hb); clear HO189; clear HO192; clear HO203; clear HO206; clear HO216; clear HO219; clear HO230; clear HO233; clear HB; have HO189 := n0_; have HO192 := n1_; have HO203 := n2_; have HO206 := n3_; have HO216 := n4_; have HO219 := n5_; have HO230 := n6_; have HO233 := n7_; have HO237 := n8_; have HB := n9_; clear n0_ n1_ n2_ n3_ n4_ n5_ n6_ n7_ n8_ n9_; (try clear hb); (try clear hb2); (try clear hk); (try clear hi); (try clear ho0); obtain ⟨Ao29, co29, eo29⟩ := Kd.R_slice HO237.out; subst eo29) | ((with_reducible refine gate_dst (N := 15) rfl ?_); (try (refine gate_guard (by rfl) ?_; dsimp only)); (try (refine gate_guard (by rfl) ?_; dsimp only)); refine goesL_ (some 15) rfl rfl Try.func23 (by kernel_rfl) rfl #[] rfl (by (try simp only [List.map_toArray, List.map_cons, List.map_nil]); first | done | rfl) ?_; (with_reducible refine (althinglaw05_some.calls  t238 t239 t240 t241 t242 t243 t244 t247 t250 _ A11.out).mono ?_); rintro e w30 ⟨v245, v248, rfl, ho0, ho1, hb⟩; refine ⟨_, rfl, ?_⟩; have n0_ := Aside0.mk (Kd.R_elder' (kr_ HO189.out) (Kd.R_base ho0) hb); have n1_ := Aside0.mk (Kd.R_elder' (kr_ HO192.out) (Kd.R_base ho1) hb); have n2_ := Aside0.mk (Kd.R_elder' (kr_ HO203.out) (Kd.R_base ho0) hb); have n3_ := Aside0.mk (Kd.R_elder' (kr_ HO206.out) (Kd.R_base ho1) hb); have n4_ := Aside0.mk (Kd.R_elder' (kr_ HO216.out) (Kd.R_base ho0) hb); have n5_ := Aside0.mk (Kd.R_elder' (kr_ HO219.out) (Kd.R_base ho1) hb); have n6_ := Aside0.mk (Kd.R_elder' (kr_ HO230.out) (Kd.R_base ho0) hb); have n7_ := Aside0.mk (Kd.R_elder' (kr_ HO233.out) (Kd.R_base ho1) hb); have n8_ := Aside0.mk (Kd.R_below (kr_ HO237.out) hb); have n9_ := Aside0.mk (Kd.R_lower (Kd.R_new' (Kd.R_new' (Kd.R_new' (Kd.R_new' ho0 (Kd.R_lt (kr_ HO189.out))) (Kd.R_lt (kr_ HO203.out))) (Kd.R_lt (kr_ HO216.out))) (Kd.R_lt (kr_ HO230.out))) (below_size lb_)); have n10_ := Aside0.mk (Kd.R_lower (Kd.R_new' (Kd.R_new' (Kd.R_new' (Kd.R_new' ho1 (Kd.R_lt (kr_ HO192.out))) (Kd.R_lt (kr_ HO206.out))) (Kd.R_lt (kr_ HO219.out))) (Kd.R_lt (kr_ HO233.out))) (below_size lb_)); have n11_ := Aside0.mk (below_step lb_ hb); clear HO189; clear HO192; clear HO203; clear HO206; clear HO216; clear HO219; clear HO230; clear HO233; clear HO237; clear HB; have HO189 := n0_; have HO192 := n1_; have HO203 := n2_; have HO206 := n3_; have HO216 := n4_; have HO219 := n5_; have HO230 := n6_; have HO233 := n7_; have HO237 := n8_; have HO246 := n9_; have HO249 := n10_; have HB := n11_; clear n0_ n1_ n2_ n3_ n4_ n5_ n6_ n7_ n8_ n9_ n10_ n11_; (try clear hb); (try clear hb2); (try clear hk); (try clear hi); (try clear ho0); (try clear ho1)) | ((with_reducible refine gate_dst (N := 16) rfl ?_); (try (refine gate_guard (by rfl) ?_; dsimp only)); (try (refine gate_guard (by rfl) ?_; dsimp only)); refine goesL_ (some 16) rfl rfl Try.func23 (by kernel_rfl) rfl #[] rfl (by (try simp only [List.map_toArray, List.map_cons, List.map_nil]); first | done | rfl) ?_; (with_reducible refine (althinglaw05_some.calls  t251 t252 t253 t254 t255 t256 t257 t260 t263 _ A12.out).mono ?_); rintro e w31 ⟨v258, v261, rfl, ho0, ho1, hb⟩; refine ⟨_, rfl, ?_⟩; have n0_ := Aside0.mk (Kd.R_elder' (kr_ HO189.out) (Kd.R_base ho0) hb); have n1_ := Aside0.mk (Kd.R_elder' (kr_ HO192.out) (Kd.R_base ho1) hb); have n2_ := Aside0.mk (Kd.R_elder' (kr_ HO203.out) (Kd.R_base ho0) hb); have n3_ := Aside0.mk (Kd.R_elder' (kr_ HO206.out) (Kd.R_base ho1) hb); have n4_ := Aside0.mk (Kd.R_elder' (kr_ HO216.out) (Kd.R_base ho0) hb); have n5_ := Aside0.mk (Kd.R_elder' (kr_ HO219.out) (Kd.R_base ho1) hb); have n6_ := Aside0.mk (Kd.R_elder' (kr_ HO230.out) (Kd.R_base ho0) hb); have n7_ := Aside0.mk (Kd.R_elder' (kr_ HO233.out) (Kd.R_base ho1) hb); have n8_ := Aside0.mk (Kd.R_below (kr_ HO237.out) hb); have n9_ := Aside0.mk (Kd.R_elder' (kr_ HO246.out) (Kd.R_base ho0) hb); have n10_ := Aside0.mk (Kd.R_elder' (kr_ HO249.out) (Kd.R_base ho1) hb); have n11_ := Aside0.mk (Kd.R_lower (Kd.R_new' (Kd.R_new' (Kd.R_new' (Kd.R_new' (Kd.R_new' ho0 (Kd.R_lt (kr_ HO189.out))) (Kd.R_lt (kr_ HO203.out))) (Kd.R_lt (kr_ HO216.out))) (Kd.R_lt (kr_ HO230.out))) (Kd.R_lt (kr_ HO246.out))) (below_size lb_)); have n12_ := Aside0.mk (Kd.R_lower (Kd.R_new' (Kd.R_new' (Kd.R_new' (Kd.R_new' (Kd.R_new' ho1 (Kd.R_lt (kr_ HO192.out))) (Kd.R_lt (kr_ HO206.out))) (Kd.R_lt (kr_ HO219.out))) (Kd.R_lt (kr_ HO233.out))) (Kd.R_lt (kr_ HO249.out))) (below_size lb_)); have n13_ := Aside0.mk (below_step lb_ hb); clear HO189; clear HO192; clear HO203; clear HO206; clear HO216; clear HO219; clear HO230; clear HO233; clear HO237; clear HO246; clear HO249; clear HB; have HO189 := n0_; have HO192 := n1_; have HO203 := n2_; have HO206 := n3_; have HO216 := n4_; have HO219 := n5_; have HO230 := n6_; have HO233 := n7_; have HO237 := n8_; have HO246 := n9_; have HO249 := n10_; have HO259 := n11_; have HO262 := n12_; have HB := n13_; clear n0_ n1_ n2_ n3_ n4_ n5_ n6_ n7_ n8_ n9_ n10_ n11_ n12_ n13_; (try clear hb); (try clear hb2); (try clear hk); (try clear hi); (try clear ho0); (try clear ho1); obtain ⟨Ao32, co32, eo32⟩ := Kd.R_slice HO246.out; subst eo32; obtain ⟨Ao33, co33, eo33⟩ := Kd.R_slice HO249.out; subst eo33; obtain ⟨Ao34, co34, eo34⟩ := Kd.R_slice HO259.out; subst eo34; obtain ⟨Ao35, co35, eo35⟩ := Kd.R_slice HO262.out; subst eo35) | (go_at_call 25; (with_reducible refine (command_Same.calls k t238 t239 t240 t241 t242 t243 _ _ t244 _ _ t247 t250 t251 t252 t253 t254 t255 t256 _ _ t257 _ _ t260 t263 t264 _ ?side1 ?side2 ?side3 ?side4 ?side5 ?side6 ?side7 ?side8 A13.out).mono ?_); (case side1 => repeat (first | exact (Kd.R_reads' HO246.out).2.2 | (with_reducible refine Kd.C_alloc ?_ _) | (with_reducible refine Kd.C_drewN ?_ _) | (with_reducible refine Kd.C_drew ?_))); (case side2 => exact (Kd.R_reads' HO246.out).2.1); (case side3 => repeat (first | exact (Kd.R_reads' HO249.out).2.2 | (with_reducible refine Kd.C_alloc ?_ _) | (with_reducible refine Kd.C_drewN ?_ _) | (with_reducible refine Kd.C_drew ?_))); (case side4 => exact (Kd.R_reads' HO249.out).2.1); (case side5 => repeat (first | exact (Kd.R_reads' HO259.out).2.2 | (with_reducible refine Kd.C_alloc ?_ _) | (with_reducible refine Kd.C_drewN ?_ _) | (with_reducible refine Kd.C_drew ?_))); (case side6 => exact (Kd.R_reads' HO259.out).2.1); (case side7 => repeat (first | exact (Kd.R_reads' HO262.out).2.2 | (with_reducible refine Kd.C_alloc ?_ _) | (with_reducible refine Kd.C_drewN ?_ _) | (with_reducible refine Kd.C_drew ?_))); (case side8 => exact (Kd.R_reads' HO262.out).2.1); rintro e w36 ⟨rfl, hb⟩; have n0_ := Aside0.mk (Kd.R_below (kr_ HO189.out) hb); have n1_ := Aside0.mk (Kd.R_below (kr_ HO192.out) hb); have n2_ := Aside0.mk (Kd.R_below (kr_ HO203.out) hb); have n3_ := Aside0.mk (Kd.R_below (kr_ HO206.out) hb); have n4_ := Aside0.mk (Kd.R_below (kr_ HO216.out) hb); have n5_ := Aside0.mk (Kd.R_below (kr_ HO219.out) hb); have n6_ := Aside0.mk (Kd.R_below (kr_ HO230.out) hb); have n7_ := Aside0.mk (Kd.R_below (kr_ HO233.out) hb); have n8_ := Aside0.mk (Kd.R_below (kr_ HO237.out) hb); have n9_ := Aside0.mk (Kd.R_below (kr_ HO246.out) hb); have n10_ := Aside0.mk (Kd.R_below (kr_ HO249.out) hb); have n11_ := Aside0.mk (Kd.R_below (kr_ HO259.out) hb); have n12_ := Aside0.mk (Kd.R_below (kr_ HO262.out) hb); have n13_ := Aside0.mk (below_step lb_ hb); clear HO189; clear HO192; clear HO203; clear HO206; clear HO216; clear HO219; clear HO230; clear HO233; clear HO237; clear HO246; clear HO249; clear HO259; clear HO262; clear HB; have HO189 := n0_; have HO192 := n1_; have HO203 := n2_; have HO206 := n3_; have HO216 := n4_; have HO219 := n5_; have HO230 := n6_; have HO233 := n7_; have HO237 := n8_; have HO246 := n9_; have HO249 := n10_; have HO259 := n11_; have HO262 := n12_; have HB := n13_; clear n0_ n1_ n2_ n3_ n4_ n5_ n6_ n7_ n8_ n9_ n10_ n11_ n12_ n13_; (try clear hb); (try clear hb2); (try clear hk); (try clear hi)))
       go_ret
       exact ⟨by first | rfl | (simp [errW_none, errW_some] <;> rfl) | (simp [*, errW_none, errW_some] <;> rfl), by repeat (first | (with_reducible first | exact HB.out | apply below_alloc | apply pw_below_drewN | apply below_drew1) | exact HB.out)⟩
     · rw [if_neg c10] at H
       have c10b0 : ((t235.length : Int) == 2) = false := beq_eq_false_iff_ne.mpr c10
       have c10b1 : ((t235.length : Int) != 2) = true := bne_iff_ne.mpr c10
       obtain rfl := Option.some.inj H
       go_enter Try.func9, Try.ntmps9
       go_wp2_with (first | ((with_reducible refine gate_callee (f := 23) rfl ?_); refine goesL_ (some 1) rfl rfl Try.func23 (by kernel_rfl) rfl #[] rfl (by (try simp only [List.map_toArray, List.map_cons, List.map_nil]); first | done | rfl | (simp only [List.length_drop, List.length_take]; rfl)) ?_; (with_reducible refine (althinglaw05_some.calls  t181 t182 t183 t184 t185 t186 t187 t190 t193 _ A1.out).mono ?_); rintro e w37 ⟨v188, v191, rfl, ho0, ho1, hb⟩; refine ⟨_, rfl, ?_⟩; have n0_ := Aside0.mk (Kd.R_lower ho0 (below_size lb_)); have n1_ := Aside0.mk (Kd.R_lower ho1 (below_size lb_)); have n2_ := Aside0.mk (below_step lb_ hb); clear HB; have HO189 := n0_; have HO192 := n1_; have HB := n2_; clear n0_ n1_ n2_; (try clear hb); (try clear hb2); (try clear hk); (try clear hi); (try clear ho0); (try clear ho1); obtain ⟨Ao38, co38, eo38⟩ := Kd.R_slice HO189.out; subst eo38; obtain ⟨Ao39, co39, eo39⟩ := Kd.R_slice HO192.out; subst eo39) | ((with_reducible refine gate_callee (f := 14) rfl ?_); refine goesL_ (some 2) rfl rfl Try.func14 (by kernel_rfl) rfl #[.agg #[.int .i64 t181, .int .i64 t182, .int .i64 t183, .int .i64 t184, .int .i64 t185, .int .i64 t186, .slice Ao38 t187.length co38, .slice Ao39 t190.length co39, .bool t193]] rfl (by (try simp only [List.map_toArray, List.map_cons, List.map_nil]); first | done | rfl | (simp only [List.length_drop, List.length_take]; rfl)) ?_; (with_reducible refine (command_Right.calls k t181 t182 t183 t184 t185 t186 _ _ t187 _ _ t190 t193 true _ ?side1 ?side2 ?side3 ?side4 A2.out).mono ?_); (case side1 => repeat (first | exact (Kd.R_reads' HO189.out).2.2 | (with_reducible refine Kd.C_alloc ?_ _) | (with_reducible refine Kd.C_drewN ?_ _) | (with_reducible refine Kd.C_drew ?_))); (case side2 => exact (Kd.R_reads' HO189.out).2.1); (case side3 => repeat (first | exact (Kd.R_reads' HO192.out).2.2 | (with_reducible refine Kd.C_alloc ?_ _) | (with_reducible refine Kd.C_drewN ?_ _) | (with_reducible refine Kd.C_drew ?_))); (case side4 => exact (Kd.R_reads' HO192.out).2.1); rintro e w40 ⟨rfl, hb⟩; refine ⟨_, rfl, ?_⟩; have n0_ := Aside0.mk (Kd.R_below (kr_ HO189.out) hb); have n1_ := Aside0.mk (Kd.R_below (kr_ HO192.out) hb); have n2_ := Aside0.mk (below_step lb_ hb); clear HO189; clear HO192; clear HB; have HO189 := n0_; have HO192 := n1_; have HB := n2_; clear n0_ n1_ n2_; (try clear hb); (try clear hb2); (try clear hk); (try clear hi)) | ((with_reducible refine gate_dst (N := 4) rfl ?_); (try (refine gate_guard (by rfl) ?_; dsimp only)); (try (refine gate_guard (by rfl) ?_; dsimp only)); refine goesL_ (some 4) rfl rfl Try.func23 (by kernel_rfl) rfl #[] rfl (by (try simp only [List.map_toArray, List.map_cons, List.map_nil]); first | done | rfl) ?_; (with_reducible refine (althinglaw05_some.calls  t195 t196 t197 t198 t199 t200 t201 t204 t207 _ A4.out).mono ?_); rintro e w41 ⟨v202, v205, rfl, ho0, ho1, hb⟩; refine ⟨_, rfl, ?_⟩; have n0_ := Aside0.mk (Kd.R_elder' (kr_ HO189.out) (Kd.R_base ho0) hb); have n1_ := Aside0.mk (Kd.R_elder' (kr_ HO192.out) (Kd.R_base ho1) hb); have n2_ := Aside0.mk (Kd.R_lower (Kd.R_new' ho0 (Kd.R_lt (kr_ HO189.out))) (below_size lb_)); have n3_ := Aside0.mk (Kd.R_lower (Kd.R_new' ho1 (Kd.R_lt (kr_ HO192.out))) (below_size lb_)); have n4_ := Aside0.mk (below_step lb_ hb); clear HO189; clear HO192; clear HB; have HO189 := n0_; have HO192 := n1_; have HO203 := n2_; have HO206 := n3_; have HB := n4_; clear n0_ n1_ n2_ n3_ n4_; (try clear hb); (try clear hb2); (try clear hk); (try clear hi); (try clear ho0); (try clear ho1)) | ((with_reducible refine gate_dst (N := 5) rfl ?_); (try (refine gate_guard (by rfl) ?_; dsimp only)); (try (refine gate_guard (by rfl) ?_; dsimp only)); refine goesL_ (some 5) rfl rfl Try.func23 (by kernel_rfl) rfl #[] rfl (by (try simp only [List.map_toArray, List.map_cons, List.map_nil]); first | done | rfl) ?_; (with_reducible refine (althinglaw05_some.calls  t208 t209 t210 t211 t212 t213 t214 t217 t220 _ A5.out).mono ?_); rintro e w42 ⟨v215, v218, rfl, ho0, ho1, hb⟩; refine ⟨_, rfl, ?_⟩; have n0_ := Aside0.mk (Kd.R_elder' (kr_ HO189.out) (Kd.R_base ho0) hb); have n1_ := Aside0.mk (Kd.R_elder' (kr_ HO192.out) (Kd.R_base ho1) hb); have n2_ := Aside0.mk (Kd.R_elder' (kr_ HO203.out) (Kd.R_base ho0) hb); have n3_ := Aside0.mk (Kd.R_elder' (kr_ HO206.out) (Kd.R_base ho1) hb); have n4_ := Aside0.mk (Kd.R_lower (Kd.R_new' (Kd.R_new' ho0 (Kd.R_lt (kr_ HO189.out))) (Kd.R_lt (kr_ HO203.out))) (below_size lb_)); have n5_ := Aside0.mk (Kd.R_lower (Kd.R_new' (Kd.R_new' ho1 (Kd.R_lt (kr_ HO192.out))) (Kd.R_lt (kr_ HO206.out))) (below_size lb_)); have n6_ := Aside0.mk (below_step lb_ hb); clear HO189; clear HO192; clear HO203; clear HO206; clear HB; have HO189 := n0_; have HO192 := n1_; have HO203 := n2_; have HO206 := n3_; have HO216 := n4_; have HO219 := n5_; have HB := n6_; clear n0_ n1_ n2_ n3_ n4_ n5_ n6_; (try clear hb); (try clear hb2); (try clear hk); (try clear hi); (try clear ho0); (try clear ho1); obtain ⟨Ao43, co43, eo43⟩ := Kd.R_slice HO203.out; subst eo43; obtain ⟨Ao44, co44, eo44⟩ := Kd.R_slice HO206.out; subst eo44; obtain ⟨Ao45, co45, eo45⟩ := Kd.R_slice HO216.out; subst eo45; obtain ⟨Ao46, co46, eo46⟩ := Kd.R_slice HO219.out; subst eo46) | (go_at_call 13; (with_reducible refine (command_Interfere.calls k t195 t196 t197 t198 t199 t200 _ _ t201 _ _ t204 t207 t208 t209 t210 t211 t212 t213 _ _ t214 _ _ t217 t220 true _ ?side1 ?side2 ?side3 ?side4 ?side5 ?side6 ?side7 ?side8 A6.out).mono ?_); (case side1 => repeat (first | exact (Kd.R_reads' HO203.out).2.2 | (with_reducible refine Kd.C_alloc ?_ _) | (with_reducible refine Kd.C_drewN ?_ _) | (with_reducible refine Kd.C_drew ?_))); (case side2 => exact (Kd.R_reads' HO203.out).2.1); (case side3 => repeat (first | exact (Kd.R_reads' HO206.out).2.2 | (with_reducible refine Kd.C_alloc ?_ _) | (with_reducible refine Kd.C_drewN ?_ _) | (with_reducible refine Kd.C_drew ?_))); (case side4 => exact (Kd.R_reads' HO206.out).2.1); (case side5 => repeat (first | exact (Kd.R_reads' HO216.out).2.2 | (with_reducible refine Kd.C_alloc ?_ _) | (with_reducible refine Kd.C_drewN ?_ _) | (with_reducible refine Kd.C_drew ?_))); (case side6 => exact (Kd.R_reads' HO216.out).2.1); (case side7 => repeat (first | exact (Kd.R_reads' HO219.out).2.2 | (with_reducible refine Kd.C_alloc ?_ _) | (with_reducible refine Kd.C_drewN ?_ _) | (with_reducible refine Kd.C_drew ?_))); (case side8 => exact (Kd.R_reads' HO219.out).2.1); rintro e w47 ⟨rfl, hb⟩; have n0_ := Aside0.mk (Kd.R_below (kr_ HO189.out) hb); have n1_ := Aside0.mk (Kd.R_below (kr_ HO192.out) hb); have n2_ := Aside0.mk (Kd.R_below (kr_ HO203.out) hb); have n3_ := Aside0.mk (Kd.R_below (kr_ HO206.out) hb); have n4_ := Aside0.mk (Kd.R_below (kr_ HO216.out) hb); have n5_ := Aside0.mk (Kd.R_below (kr_ HO219.out) hb); have n6_ := Aside0.mk (below_step lb_ hb); clear HO189; clear HO192; clear HO203; clear HO206; clear HO216; clear HO219; clear HB; have HO189 := n0_; have HO192 := n1_; have HO203 := n2_; have HO206 := n3_; have HO216 := n4_; have HO219 := n5_; have HB := n6_; clear n0_ n1_ n2_ n3_ n4_ n5_ n6_; (try clear hb); (try clear hb2); (try clear hk); (try clear hi)) | ((with_reducible refine gate_dst (N := 9) rfl ?_); (try (refine gate_guard (by rfl) ?_; dsimp only)); (try (refine gate_guard (by rfl) ?_; dsimp only)); refine goesL_ (some 9) rfl rfl Try.func23 (by kernel_rfl) rfl #[] rfl (by (try simp only [List.map_toArray, List.map_cons, List.map_nil]); first | done | rfl) ?_; (with_reducible refine (althinglaw05_some.calls  t222 t223 t224 t225 t226 t227 t228 t231 t234 _ A8.out).mono ?_); rintro e w48 ⟨v229, v232, rfl, ho0, ho1, hb⟩; refine ⟨_, rfl, ?_⟩; have n0_ := Aside0.mk (Kd.R_elder' (kr_ HO189.out) (Kd.R_base ho0) hb); have n1_ := Aside0.mk (Kd.R_elder' (kr_ HO192.out) (Kd.R_base ho1) hb); have n2_ := Aside0.mk (Kd.R_elder' (kr_ HO203.out) (Kd.R_base ho0) hb); have n3_ := Aside0.mk (Kd.R_elder' (kr_ HO206.out) (Kd.R_base ho1) hb); have n4_ := Aside0.mk (Kd.R_elder' (kr_ HO216.out) (Kd.R_base ho0) hb); have n5_ := Aside0.mk (Kd.R_elder' (kr_ HO219.out) (Kd.R_base ho1) hb); have n6_ := Aside0.mk (Kd.R_lower (Kd.R_new' (Kd.R_new' (Kd.R_new' ho0 (Kd.R_lt (kr_ HO189.out))) (Kd.R_lt (kr_ HO203.out))) (Kd.R_lt (kr_ HO216.out))) (below_size lb_)); have n7_ := Aside0.mk (Kd.R_lower (Kd.R_new' (Kd.R_new' (Kd.R_new' ho1 (Kd.R_lt (kr_ HO192.out))) (Kd.R_lt (kr_ HO206.out))) (Kd.R_lt (kr_ HO219.out))) (below_size lb_)); have n8_ := Aside0.mk (below_step lb_ hb); clear HO189; clear HO192; clear HO203; clear HO206; clear HO216; clear HO219; clear HB; have HO189 := n0_; have HO192 := n1_; have HO203 := n2_; have HO206 := n3_; have HO216 := n4_; have HO219 := n5_; have HO230 := n6_; have HO233 := n7_; have HB := n8_; clear n0_ n1_ n2_ n3_ n4_ n5_ n6_ n7_ n8_; (try clear hb); (try clear hb2); (try clear hk); (try clear hi); (try clear ho0); (try clear ho1); obtain ⟨Ao49, co49, eo49⟩ := Kd.R_slice HO230.out; subst eo49; obtain ⟨Ao50, co50, eo50⟩ := Kd.R_slice HO233.out; subst eo50) | (go_at_call 24; (with_reducible refine (command_Keys.calls k t222 t223 t224 t225 t226 t227 _ _ t228 _ _ t231 t234 t235 _ ?side1 ?side2 ?side3 ?side4 A9.out).mono ?_); (case side1 => repeat (first | exact (Kd.R_reads' HO230.out).2.2 | (with_reducible refine Kd.C_alloc ?_ _) | (with_reducible refine Kd.C_drewN ?_ _) | (with_reducible refine Kd.C_drew ?_))); (case side2 => exact (Kd.R_reads' HO230.out).2.1); (case side3 => repeat (first | exact (Kd.R_reads' HO233.out).2.2 | (with_reducible refine Kd.C_alloc ?_ _) | (with_reducible refine Kd.C_drewN ?_ _) | (with_reducible refine Kd.C_drew ?_))); (case side4 => exact (Kd.R_reads' HO233.out).2.1); rintro e w51 ⟨v236, rfl, ho0, hb⟩; have n0_ := Aside0.mk (Kd.R_below (kr_ HO189.out) hb); have n1_ := Aside0.mk (Kd.R_below (kr_ HO192.out) hb); have n2_ := Aside0.mk (Kd.R_below (kr_ HO203.out) hb); have n3_ := Aside0.mk (Kd.R_below (kr_ HO206.out) hb); have n4_ := Aside0.mk (Kd.R_below (kr_ HO216.out) hb); have n5_ := Aside0.mk (Kd.R_below (kr_ HO219.out) hb); have n6_ := Aside0.mk (Kd.R_below (kr_ HO230.out) hb); have n7_ := Aside0.mk (Kd.R_below (kr_ HO233.out) hb); have n8_ := Aside0.mk (Kd.R_lower ho0 (below_size lb_)); have n9_ := Aside0.mk (below_step lb_ hb); clear HO189; clear HO192; clear HO203; clear HO206; clear HO216; clear HO219; clear HO230; clear HO233; clear HB; have HO189 := n0_; have HO192 := n1_; have HO203 := n2_; have HO206 := n3_; have HO216 := n4_; have HO219 := n5_; have HO230 := n6_; have HO233 := n7_; have HO237 := n8_; have HB := n9_; clear n0_ n1_ n2_ n3_ n4_ n5_ n6_ n7_ n8_ n9_; (try clear hb); (try clear hb2); (try clear hk); (try clear hi); (try clear ho0); obtain ⟨Ao52, co52, eo52⟩ := Kd.R_slice HO237.out; subst eo52))
       go_ret
       exact ⟨by first | rfl | (simp [errW_none, errW_some] <;> rfl) | (simp [*, errW_none, errW_some] <;> rfl), by repeat (first | (with_reducible first | exact HB.out | apply below_alloc | apply pw_below_drewN | apply below_drew1) | exact HB.out)⟩
   · replace c7 := Bool.eq_false_iff.mpr c7
     subst c7
     rw [if_neg (show ¬ (false = true) by decide)] at H
     obtain rfl := Option.some.inj H
     go_enter Try.func9, Try.ntmps9
     go_wp2_with (first | ((with_reducible refine gate_callee (f := 23) rfl ?_); refine goesL_ (some 1) rfl rfl Try.func23 (by kernel_rfl) rfl #[] rfl (by (try simp only [List.map_toArray, List.map_cons, List.map_nil]); first | done | rfl | (simp only [List.length_drop, List.length_take]; rfl)) ?_; (with_reducible refine (althinglaw05_some.calls  t181 t182 t183 t184 t185 t186 t187 t190 t193 _ A1.out).mono ?_); rintro e w53 ⟨v188, v191, rfl, ho0, ho1, hb⟩; refine ⟨_, rfl, ?_⟩; have n0_ := Aside0.mk (Kd.R_lower ho0 (below_size lb_)); have n1_ := Aside0.mk (Kd.R_lower ho1 (below_size lb_)); have n2_ := Aside0.mk (below_step lb_ hb); clear HB; have HO189 := n0_; have HO192 := n1_; have HB := n2_; clear n0_ n1_ n2_; (try clear hb); (try clear hb2); (try clear hk); (try clear hi); (try clear ho0); (try clear ho1); obtain ⟨Ao54, co54, eo54⟩ := Kd.R_slice HO189.out; subst eo54; obtain ⟨Ao55, co55, eo55⟩ := Kd.R_slice HO192.out; subst eo55) | ((with_reducible refine gate_callee (f := 14) rfl ?_); refine goesL_ (some 2) rfl rfl Try.func14 (by kernel_rfl) rfl #[.agg #[.int .i64 t181, .int .i64 t182, .int .i64 t183, .int .i64 t184, .int .i64 t185, .int .i64 t186, .slice Ao54 t187.length co54, .slice Ao55 t190.length co55, .bool t193]] rfl (by (try simp only [List.map_toArray, List.map_cons, List.map_nil]); first | done | rfl | (simp only [List.length_drop, List.length_take]; rfl)) ?_; (with_reducible refine (command_Right.calls k t181 t182 t183 t184 t185 t186 _ _ t187 _ _ t190 t193 true _ ?side1 ?side2 ?side3 ?side4 A2.out).mono ?_); (case side1 => repeat (first | exact (Kd.R_reads' HO189.out).2.2 | (with_reducible refine Kd.C_alloc ?_ _) | (with_reducible refine Kd.C_drewN ?_ _) | (with_reducible refine Kd.C_drew ?_))); (case side2 => exact (Kd.R_reads' HO189.out).2.1); (case side3 => repeat (first | exact (Kd.R_reads' HO192.out).2.2 | (with_reducible refine Kd.C_alloc ?_ _) | (with_reducible refine Kd.C_drewN ?_ _) | (with_reducible refine Kd.C_drew ?_))); (case side4 => exact (Kd.R_reads' HO192.out).2.1); rintro e w56 ⟨rfl, hb⟩; refine ⟨_, rfl, ?_⟩; have n0_ := Aside0.mk (Kd.R_below (kr_ HO189.out) hb); have n1_ := Aside0.mk (Kd.R_below (kr_ HO192.out) hb); have n2_ := Aside0.mk (below_step lb_ hb); clear HO189; clear HO192; clear HB; have HO189 := n0_; have HO192 := n1_; have HB := n2_; clear n0_ n1_ n2_; (try clear hb); (try clear hb2); (try clear hk); (try clear hi)) | ((with_reducible refine gate_dst (N := 4) rfl ?_); (try (refine gate_guard (by rfl) ?_; dsimp only)); (try (refine gate_guard (by rfl) ?_; dsimp only)); refine goesL_ (some 4) rfl rfl Try.func23 (by kernel_rfl) rfl #[] rfl (by (try simp only [List.map_toArray, List.map_cons, List.map_nil]); first | done | rfl) ?_; (with_reducible refine (althinglaw05_some.calls  t195 t196 t197 t198 t199 t200 t201 t204 t207 _ A4.out).mono ?_); rintro e w57 ⟨v202, v205, rfl, ho0, ho1, hb⟩; refine ⟨_, rfl, ?_⟩; have n0_ := Aside0.mk (Kd.R_elder' (kr_ HO189.out) (Kd.R_base ho0) hb); have n1_ := Aside0.mk (Kd.R_elder' (kr_ HO192.out) (Kd.R_base ho1) hb); have n2_ := Aside0.mk (Kd.R_lower (Kd.R_new' ho0 (Kd.R_lt (kr_ HO189.out))) (below_size lb_)); have n3_ := Aside0.mk (Kd.R_lower (Kd.R_new' ho1 (Kd.R_lt (kr_ HO192.out))) (below_size lb_)); have n4_ := Aside0.mk (below_step lb_ hb); clear HO189; clear HO192; clear HB; have HO189 := n0_; have HO192 := n1_; have HO203 := n2_; have HO206 := n3_; have HB := n4_; clear n0_ n1_ n2_ n3_ n4_; (try clear hb); (try clear hb2); (try clear hk); (try clear hi); (try clear ho0); (try clear ho1)) | ((with_reducible refine gate_dst (N := 5) rfl ?_); (try (refine gate_guard (by rfl) ?_; dsimp only)); (try (refine gate_guard (by rfl) ?_; dsimp only)); refine goesL_ (some 5) rfl rfl Try.func23 (by kernel_rfl) rfl #[] rfl (by (try simp only [List.map_toArray, List.map_cons, List.map_nil]); first | done | rfl) ?_; (with_reducible refine (althinglaw05_some.calls  t208 t209 t210 t211 t212 t213 t214 t217 t220 _ A5.out).mono ?_); rintro e w58 ⟨v215, v218, rfl, ho0, ho1, hb⟩; refine ⟨_, rfl, ?_⟩; have n0_ := Aside0.mk (Kd.R_elder' (kr_ HO189.out) (Kd.R_base ho0) hb); have n1_ := Aside0.mk (Kd.R_elder' (kr_ HO192.out) (Kd.R_base ho1) hb); have n2_ := Aside0.mk (Kd.R_elder' (kr_ HO203.out) (Kd.R_base ho0) hb); have n3_ := Aside0.mk (Kd.R_elder' (kr_ HO206.out) (Kd.R_base ho1) hb); have n4_ := Aside0.mk (Kd.R_lower (Kd.R_new' (Kd.R_new' ho0 (Kd.R_lt (kr_ HO189.out))) (Kd.R_lt (kr_ HO203.out))) (below_size lb_)); have n5_ := Aside0.mk (Kd.R_lower (Kd.R_new' (Kd.R_new' ho1 (Kd.R_lt (kr_ HO192.out))) (Kd.R_lt (kr_ HO206.out))) (below_size lb_)); have n6_ := Aside0.mk (below_step lb_ hb); clear HO189; clear HO192; clear HO203; clear HO206; clear HB; have HO189 := n0_; have HO192 := n1_; have HO203 := n2_; have HO206 := n3_; have HO216 := n4_; have HO219 := n5_; have HB := n6_; clear n0_ n1_ n2_ n3_ n4_ n5_ n6_; (try clear hb); (try clear hb2); (try clear hk); (try clear hi); (try clear ho0); (try clear ho1); obtain ⟨Ao59, co59, eo59⟩ := Kd.R_slice HO203.out; subst eo59; obtain ⟨Ao60, co60, eo60⟩ := Kd.R_slice HO206.out; subst eo60; obtain ⟨Ao61, co61, eo61⟩ := Kd.R_slice HO216.out; subst eo61; obtain ⟨Ao62, co62, eo62⟩ := Kd.R_slice HO219.out; subst eo62) | (go_at_call 13; (with_reducible refine (command_Interfere.calls k t195 t196 t197 t198 t199 t200 _ _ t201 _ _ t204 t207 t208 t209 t210 t211 t212 t213 _ _ t214 _ _ t217 t220 false _ ?side1 ?side2 ?side3 ?side4 ?side5 ?side6 ?side7 ?side8 A6.out).mono ?_); (case side1 => repeat (first | exact (Kd.R_reads' HO203.out).2.2 | (with_reducible refine Kd.C_alloc ?_ _) | (with_reducible refine Kd.C_drewN ?_ _) | (with_reducible refine Kd.C_drew ?_))); (case side2 => exact (Kd.R_reads' HO203.out).2.1); (case side3 => repeat (first | exact (Kd.R_reads' HO206.out).2.2 | (with_reducible refine Kd.C_alloc ?_ _) | (with_reducible refine Kd.C_drewN ?_ _) | (with_reducible refine Kd.C_drew ?_))); (case side4 => exact (Kd.R_reads' HO206.out).2.1); (case side5 => repeat (first | exact (Kd.R_reads' HO216.out).2.2 | (with_reducible refine Kd.C_alloc ?_ _) | (with_reducible refine Kd.C_drewN ?_ _) | (with_reducible refine Kd.C_drew ?_))); (case side6 => exact (Kd.R_reads' HO216.out).2.1); (case side7 => repeat (first | exact (Kd.R_reads' HO219.out).2.2 | (with_reducible refine Kd.C_alloc ?_ _) | (with_reducible refine Kd.C_drewN ?_ _) | (with_reducible refine Kd.C_drew ?_))); (case side8 => exact (Kd.R_reads' HO219.out).2.1); rintro e w63 ⟨rfl, hb⟩; have n0_ := Aside0.mk (Kd.R_below (kr_ HO189.out) hb); have n1_ := Aside0.mk (Kd.R_below (kr_ HO192.out) hb); have n2_ := Aside0.mk (Kd.R_below (kr_ HO203.out) hb); have n3_ := Aside0.mk (Kd.R_below (kr_ HO206.out) hb); have n4_ := Aside0.mk (Kd.R_below (kr_ HO216.out) hb); have n5_ := Aside0.mk (Kd.R_below (kr_ HO219.out) hb); have n6_ := Aside0.mk (below_step lb_ hb); clear HO189; clear HO192; clear HO203; clear HO206; clear HO216; clear HO219; clear HB; have HO189 := n0_; have HO192 := n1_; have HO203 := n2_; have HO206 := n3_; have HO216 := n4_; have HO219 := n5_; have HB := n6_; clear n0_ n1_ n2_ n3_ n4_ n5_ n6_; (try clear hb); (try clear hb2); (try clear hk); (try clear hi)))
     go_ret
     exact ⟨by first | rfl | (simp [errW_none, errW_some] <;> rfl) | (simp [*, errW_none, errW_some] <;> rfl), by repeat (first | (with_reducible first | exact HB.out | apply below_alloc | apply pw_below_drewN | apply below_drew1) | exact HB.out)⟩
 · replace c3 := Bool.eq_false_iff.mpr c3
   subst c3
   rw [if_neg (show ¬ (false = true) by decide)] at H
   obtain rfl := Option.some.inj H
   go_enter Try.func9, Try.ntmps9
   go_wp2_with (first | ((with_reducible refine gate_callee (f := 23) rfl ?_); refine goesL_ (some 1) rfl rfl Try.func23 (by kernel_rfl) rfl #[] rfl (by (try simp only [List.map_toArray, List.map_cons, List.map_nil]); first | done | rfl | (simp only [List.length_drop, List.length_take]; rfl)) ?_; (with_reducible refine (althinglaw05_some.calls  t181 t182 t183 t184 t185 t186 t187 t190 t193 _ A1.out).mono ?_); rintro e w64 ⟨v188, v191, rfl, ho0, ho1, hb⟩; refine ⟨_, rfl, ?_⟩; have n0_ := Aside0.mk (Kd.R_lower ho0 (below_size lb_)); have n1_ := Aside0.mk (Kd.R_lower ho1 (below_size lb_)); have n2_ := Aside0.mk (below_step lb_ hb); clear HB; have HO189 := n0_; have HO192 := n1_; have HB := n2_; clear n0_ n1_ n2_; (try clear hb); (try clear hb2); (try clear hk); (try clear hi); (try clear ho0); (try clear ho1); obtain ⟨Ao65, co65, eo65⟩ := Kd.R_slice HO189.out; subst eo65; obtain ⟨Ao66, co66, eo66⟩ := Kd.R_slice HO192.out; subst eo66) | ((with_reducible refine gate_callee (f := 14) rfl ?_); refine goesL_ (some 2) rfl rfl Try.func14 (by kernel_rfl) rfl #[.agg #[.int .i64 t181, .int .i64 t182, .int .i64 t183, .int .i64 t184, .int .i64 t185, .int .i64 t186, .slice Ao65 t187.length co65, .slice Ao66 t190.length co66, .bool t193]] rfl (by (try simp only [List.map_toArray, List.map_cons, List.map_nil]); first | done | rfl | (simp only [List.length_drop, List.length_take]; rfl)) ?_; (with_reducible refine (command_Right.calls k t181 t182 t183 t184 t185 t186 _ _ t187 _ _ t190 t193 false _ ?side1 ?side2 ?side3 ?side4 A2.out).mono ?_); (case side1 => repeat (first | exact (Kd.R_reads' HO189.out).2.2 | (with_reducible refine Kd.C_alloc ?_ _) | (with_reducible refine Kd.C_drewN ?_ _) | (with_reducible refine Kd.C_drew ?_))); (case side2 => exact (Kd.R_reads' HO189.out).2.1); (case side3 => repeat (first | exact (Kd.R_reads' HO192.out).2.2 | (with_reducible refine Kd.C_alloc ?_ _) | (with_reducible refine Kd.C_drewN ?_ _) | (with_reducible refine Kd.C_drew ?_))); (case side4 => exact (Kd.R_reads' HO192.out).2.1); rintro e w67 ⟨rfl, hb⟩; refine ⟨_, rfl, ?_⟩; have n0_ := Aside0.mk (Kd.R_below (kr_ HO189.out) hb); have n1_ := Aside0.mk (Kd.R_below (kr_ HO192.out) hb); have n2_ := Aside0.mk (below_step lb_ hb); clear HO189; clear HO192; clear HB; have HO189 := n0_; have HO192 := n1_; have HB := n2_; clear n0_ n1_ n2_; (try clear hb); (try clear hb2); (try clear hk); (try clear hi)))
   go_ret
   exact ⟨by first | rfl | (simp [errW_none, errW_some] <;> rfl) | (simp [*, errW_none, errW_some] <;> rfl), by repeat (first | (with_reducible first | exact HB.out | apply below_alloc | apply pw_below_drewN | apply below_drew1) | exact HB.out)⟩
end Go.Proofs.Ytnjeeedndnfglaa.X
end
section
namespace Go.Proofs.Ytnjeeedndnfglaa.X
open Go.RowKit Go.Proofs.YtnjeeedndnfglaaW.PrintWords Go.Proofs.YtnjeeedndnfglaaW.PrintLast Go.Proofs.YtnjeeedndnfglaaW.PrintMore
attribute [local go_sem] max2_int min2_int max_two min_two max_three min_three max_four min_four   -- for this text's walks alone
set_option linter.unusedVariables false
set_option linter.unusedSimpArgs false
/-! ### command_Clone: function 10 -/
def command_Clone.f (a0_0 : Int) (a0_1 : Int) (a0_2 : Int) (a0_3 : Int) (a0_4 : Int) (a0_5 : Int) (l0_6 : List (S38)) (l0_7 : List (S40)) (a0_8 : Bool) : Option (Int × Int × Int × Int × Int × Int × (List (S38)) × (List (S40)) × Bool) := (some (([] : List (S38)) : List (S38))).bind fun y267 => (if y267.length + l0_6.length < 4398046511104 then ((some (([] : List (S40)) : List (S40))).bind fun y273 => (if y273.length + l0_7.length < 4398046511104 then (some (a0_0, a0_1, a0_2, a0_3, a0_4, a0_5, (y267 ++ l0_6), (y273 ++ l0_7), a0_8)) else (none))) else (none))
def command_Clone.T1 : Bool × List (List Nat × List Nat) := (true, [([], []), ([], []), ([1], [1]), ([0, 2], [0, 2]), ([], []), ([], []), ([5], [5]), ([4, 6, 3], [4, 6]), ([0, 1, 2, 3, 5, 6], []), ([8, 3, 7, 0, 1, 2, 3, 5, 6], [3, 8]), ([0, 1, 2, 3, 4, 5, 6, 7, 8, 9], []), ([10, 7, 9, 0, 1, 2, 3, 4, 5, 6, 7, 8, 9], [7, 10])])
def command_Clone.B1 : List Nat := [0, 0, 2, 7, 0, 0, 32, 127, 111, 511, 1023, 2047]
theorem command_Clone.tab1 : rtab .any (opsOf Try.f10 1) = command_Clone.T1 := by kernel_rfl
theorem command_Clone.bits1 : waitsOk command_Clone.T1.2 command_Clone.B1 = true := by kernel_rfl
set_option maxHeartbeats 8000000 in
set_option maxRecDepth 100000 in
theorem command_Clone.calls (a0_0 : Int) (a0_1 : Int) (a0_2 : Int) (a0_3 : Int) (a0_4 : Int) (a0_5 : Int) (A0_6 : Option Addr) (c0_6 : Nat) (l0_6 : List (S38)) (A0_7 : Option Addr) (c0_7 : Nat) (l0_7 : List (S40)) (a0_8 : Bool) (r1 : Int) (r2 : Int) (r3 : Int) (r4 : Int) (r5 : Int) (r6 : Int) (r7 : List (S38)) (r8 : List (S40)) (r9 : Bool) (w : World) (hr0_6 : Kd.C k38 w A0_6 l0_6.length l0_6) (hc0_6 : l0_6.length ≤ c0_6) (hr0_7 : Kd.C k40 w A0_7 l0_7.length l0_7) (hc0_7 : l0_7.length ≤ c0_7) (h : command_Clone.f a0_0 a0_1 a0_2 a0_3 a0_4 a0_5 l0_6 l0_7 a0_8 = some (r1, r2, r3, r4, r5, r6, r7, r8, r9)) :
 Calls Try.prog 10 #[.agg #[.int .i64 a0_0, .int .i64 a0_1, .int .i64 a0_2, .int .i64 a0_3, .int .i64 a0_4, .int .i64 a0_5, .slice A0_6 l0_6.length c0_6, .slice A0_7 l0_7.length c0_7, .bool a0_8]] w fun e w' => ∃ v6_ v7_ : Value, e = .returned (.agg #[.int .i64 r1, .int .i64 r2, .int .i64 r3, .int .i64 r4, .int .i64 r5, .int .i64 r6, v6_, v7_, .bool r9]) ∧ Kd.R k38 38 w' w.heap.size (fun _ => True) v6_ r7 ∧ Kd.R k40 40 w' w.heap.size (fun _ => True) v7_ r8 ∧ Below w.heap.size w w' := by
 have hu29 := Try.underlying29
 have HR0_6 := Aside0.mk hr0_6
 have HC0_6 := Aside0.mk hc0_6
 clear hr0_6 hc0_6
 have HR0_7 := Aside0.mk hr0_7
 have HC0_7 := Aside0.mk hc0_7
 clear hr0_7 hc0_7
 have HB := Aside0.mk (Below.refl w.heap.size w)
 have H : ((some (([] : List (S38)) : List (S38))).bind fun y267 => (if y267.length + l0_6.length < 4398046511104 then ((some (([] : List (S40)) : List (S40))).bind fun y273 => (if y273.length + l0_7.length < 4398046511104 then (some (a0_0, a0_1, a0_2, a0_3, a0_4, a0_5, (y267 ++ l0_6), (y273 ++ l0_7), a0_8)) else (none))) else (none))) = some (r1, r2, r3, r4, r5, r6, r7, r8, r9) := h
 clear h
 obtain ⟨y267, hy267⟩ : ∃ y_ : List (S38), y_ = (([] : List (S38))) := ⟨_, rfl⟩
 replace H : (if y267.length + l0_6.length < 4398046511104 then ((some (([] : List (S40)) : List (S40))).bind fun y273 => (if y273.length + l0_7.length < 4398046511104 then (some (a0_0, a0_1, a0_2, a0_3, a0_4, a0_5, (y267 ++ l0_6), (y273 ++ l0_7), a0_8)) else (none))) else (none)) = some (r1, r2, r3, r4, r5, r6, r7, r8, r9) := by first | (rw [hy267]; with_reducible exact H) | (have H2_ := (Option.bind_some _ _).symm.trans H; rw [hy267]; with_reducible exact H2_) | (have H2_ := (Option.bind_some _ _).symm.trans H; with_reducible exact H2_) | with_reducible exact H | (rw [hy267]; exact H) | exact H
 have Ny267 := Aside0.mk hy267
 clear hy267
 by_cases c2 : y267.length + l0_6.length < 4398046511104
 · rw [if_pos c2] at H
   have LMc2 := Aside0.mk c2
   clear c2
   obtain ⟨y270, hy270⟩ : ∃ y_ : List (S38), y_ = (y267 ++ l0_6) := ⟨_, rfl⟩
   replace H : ((some (([] : List (S40)) : List (S40))).bind fun y273 => (if y273.length + l0_7.length < 4398046511104 then (some (a0_0, a0_1, a0_2, a0_3, a0_4, a0_5, y270, (y273 ++ l0_7), a0_8)) else (none))) = some (r1, r2, r3, r4, r5, r6, r7, r8, r9) := by first | (rw [hy270]; with_reducible exact H) | (have H2_ := (Option.bind_some _ _).symm.trans H; rw [hy270]; with_reducible exact H2_) | (have H2_ := (Option.bind_some _ _).symm.trans H; with_reducible exact H2_) | with_reducible exact H | (rw [hy270]; exact H) | exact H
   have Ny270 := Aside0.mk hy270
   clear hy270
   obtain ⟨y273, hy273⟩ : ∃ y_ : List (S40), y_ = (([] : List (S40))) := ⟨_, rfl⟩
   replace H : (if y273.length + l0_7.length < 4398046511104 then (some (a0_0, a0_1, a0_2, a0_3, a0_4, a0_5, y270, (y273 ++ l0_7), a0_8)) else (none)) = some (r1, r2, r3, r4, r5, r6, r7, r8, r9) := by first | (rw [hy273]; with_reducible exact H) | (have H2_ := (Option.bind_some _ _).symm.trans H; rw [hy273]; with_reducible exact H2_) | (have H2_ := (Option.bind_some _ _).symm.trans H; with_reducible exact H2_) | with_reducible exact H | (rw [hy273]; exact H) | exact H
   have Ny273 := Aside0.mk hy273
   clear hy273
   by_cases c3 : y273.length + l0_7.length < 4398046511104
   · rw [if_pos c3] at H
     have LMc3 := Aside0.mk c3
     clear c3
     obtain ⟨y276, hy276⟩ : ∃ y_ : List (S40), y_ = (y273 ++ l0_7) := ⟨_, rfl⟩
     replace H : (some (a0_0, a0_1, a0_2, a0_3, a0_4, a0_5, y270, y276, a0_8)) = some (r1, r2, r3, r4, r5, r6, r7, r8, r9) := by first | (rw [hy276]; with_reducible exact H) | (have H2_ := (Option.bind_some _ _).symm.trans H; rw [hy276]; with_reducible exact H2_) | (have H2_ := (Option.bind_some _ _).symm.trans H; with_reducible exact H2_) | with_reducible exact H | (rw [hy276]; exact H) | exact H
     have Ny276 := Aside0.mk hy276
     clear hy276
     simp only [Option.some.injEq, Prod.mk.injEq] at H
     obtain ⟨rfl, rfl, rfl, rfl, rfl, rfl, rfl, rfl, rfl⟩ := H
     go_enter Try.func10, Try.ntmps10
     try go_wp2_with (first | ((with_reducible refine gate_dst (N := 1) rfl ?_); refine box_event ?hg (N := 1) ?hd (cs := #[.int .i64 a0_0, .int .i64 a0_1, .int .i64 a0_2, .int .i64 a0_3, .int .i64 a0_4, .int .i64 a0_5, .slice A0_6 l0_6.length c0_6, .slice A0_7 l0_7.length c0_7, .bool a0_8]) (t := 29) ?hr ?_; (case hd => rfl); (case hg => rfl); (case hr => first | (go_simp; done) | (go_simp; rfl)); intro gb265 hg w4 hbox hb; have n0_ := Aside0.mk (below_step lb_ hb); have n1_ := Aside0.mk (hbox); have n2_ := Aside0.mk ((by rw [hg]; exact (below_size lb_) : w.heap.size ≤ gb265)); have n3_ := Aside0.mk ((by rw [hg]; exact (below_size lb_) : w.heap.size ≤ gb265)); clear HB; have HB := n0_; have BK265 := n1_; have GW265 := n2_; have GE265 := n3_; clear n0_ n1_ n2_ n3_; clear hb hbox hg) | ((with_reducible refine gate_dst (N := 2) rfl ?_); refine box_event ?hg (N := 2) ?hd (cs := #[.int .i64 0, .int .i64 0, .int .i64 0, .int .i64 0, .int .i64 0, .int .i64 0, .slice none 0 0, .slice none 0 0, .bool false]) (t := 29) ?hr ?_; (case hd => rfl); (case hg => rfl); (case hr => first | (go_simp; done) | (go_simp; rfl)); intro gb266 hg w5 hbox hb; have n0_ := Aside0.mk (blk_below (kb_ BK265.out) hb); have n1_ := Aside0.mk (below_step (by repeat (first | (with_reducible first | exact HB.out | apply below_alloc | apply pw_below_drewN | apply below_drew1 | refine below_set ?_ GE265.out) | exact HB.out)) hb); have n2_ := Aside0.mk (hbox); have n3_ := Aside0.mk ((by rw [hg]; exact (below_size (by repeat (first | (with_reducible first | exact HB.out | apply below_alloc | apply pw_below_drewN | apply below_drew1 | refine below_set ?_ GE265.out) | exact HB.out))) : w.heap.size ≤ gb266)); have n4_ := Aside0.mk ((by rw [hg]; exact (below_size (by repeat (first | (with_reducible first | exact HB.out | apply below_alloc | apply pw_below_drewN | apply below_drew1 | refine below_set ?_ GE265.out) | exact HB.out))) : w.heap.size ≤ gb266)); have n5_ := Aside0.mk ((by rw [hg]; exact Nat.ne_of_lt (blk_lt (kb_ BK265.out)) : gb265 ≠ gb266)); have n6_ := Aside0.mk ((by rw [hg]; exact Nat.ne_of_gt (blk_lt (kb_ BK265.out)) : gb266 ≠ gb265)); clear BK265; clear HB; have BK265 := n0_; have HB := n1_; have BK266 := n2_; have GW266 := n3_; have GE266 := n4_; have NB265_266 := n5_; have NB266_265 := n6_; clear n0_ n1_ n2_ n3_ n4_ n5_ n6_; clear hb hbox hg))
     have n0_ := Aside0.mk (blk_drew BK265.out)
     have n1_ := Aside0.mk (blk_drew BK266.out)
     have n2_ := Aside0.mk (below_drew1 HB.out)
     clear BK265
     clear BK266
     clear HB
     have BK265 := n0_
     have BK266 := n1_
     have HB := n2_
     clear n0_ n1_ n2_
     refine start_ (n := 12) (S := fun w' => w'.cell? ⟨gb265, 0, none⟩ = some (.int .i64 a0_0) ∧ w'.cell? ⟨gb265, 1, none⟩ = some (.int .i64 a0_1) ∧ w'.cell? ⟨gb265, 2, none⟩ = some (.int .i64 a0_2) ∧ w'.cell? ⟨gb265, 3, none⟩ = some (.int .i64 a0_3) ∧ w'.cell? ⟨gb265, 4, none⟩ = some (.int .i64 a0_4) ∧ w'.cell? ⟨gb265, 5, none⟩ = some (.int .i64 a0_5) ∧ w'.cell? ⟨gb265, 6, none⟩ = some (.slice A0_6 l0_6.length c0_6) ∧ w'.cell? ⟨gb265, 7, none⟩ = some (.slice A0_7 l0_7.length c0_7) ∧ w'.cell? ⟨gb265, 8, none⟩ = some (.bool a0_8)) (ds := [9, 11]) #[false, false, false, false, false, false, false, false, false, false, false, false] (by kernel_rfl) rfl rfl ⟨(blk_cell BK265.out 0).trans rfl, (blk_cell BK265.out 1).trans rfl, (blk_cell BK265.out 2).trans rfl, (blk_cell BK265.out 3).trans rfl, (blk_cell BK265.out 4).trans rfl, (blk_cell BK265.out 5).trans rfl, (blk_cell BK265.out 6).trans rfl, (blk_cell BK265.out 7).trans rfl, (blk_cell BK265.out 8).trans rfl⟩ (fun hHeld => ?_); refine with_tabW command_Clone.tab1 command_Clone.bits1 (fun HT_ HW_ => ?_)
     generalize w5.drew = w6 at BK265 BK266 HB hHeld ⊢
     refine pure_ (i := 1) (N := some 4) (v := ?_) (a' := ?_) #[false, true, false, false, false, false, false, false, false, false, false, false] rfl rfl (any_of HT_.out (by kernel_rfl)) (fun _ _ _ h => h) (Or.inl ⟨by rfl, ?_⟩) ?_ ?_
     rotate_left
     · intro w'
       go_simp
       with_reducible rfl
     rotate_left
     · simp only [Act.put, List.setIfInBounds_toArray, List.set_cons_zero, List.set_cons_succ, i64_w, i32_w]
       rfl
     refine pure_ (i := 5) (N := some 8) (v := ?_) (a' := ?_) #[false, true, false, false, false, true, false, false, false, false, false, false] rfl rfl (any_of HT_.out (by kernel_rfl)) (fun _ _ _ h => h) (Or.inl ⟨by rfl, ?_⟩) ?_ ?_
     rotate_left
     · intro w'
       go_simp
       with_reducible rfl
     rotate_left
     · simp only [Act.put, List.setIfInBounds_toArray, List.set_cons_zero, List.set_cons_succ, i64_w, i32_w]
       rfl
     refine take_ (i := 2) (N := some 5) (v := ?_) (a' := ?_) #[false, true, true, false, false, true, false, false, false, false, false, false] rfl rfl (take_ofW HT_.out HW_.out (by kernel_rfl)) (fun _ _ _ h => h) (Or.inl ⟨by rfl, ?_⟩) hHeld ?_ ?_
     rotate_left
     · rintro w' ⟨s0, s1, s2, s3, s4, s5, s6, s7, s8⟩
       go_simp
       with_reducible rfl
     rotate_left
     · simp only [Act.put, List.setIfInBounds_toArray, List.set_cons_zero, List.set_cons_succ, i64_w, i32_w]
       rfl
     refine take_ (i := 6) (N := some 9) (v := ?_) (a' := ?_) #[false, true, true, false, false, true, true, false, false, false, false, false] rfl rfl (take_ofW HT_.out HW_.out (by kernel_rfl)) (fun _ _ _ h => h) (Or.inl ⟨by rfl, ?_⟩) hHeld ?_ ?_
     rotate_left
     · rintro w' ⟨s0, s1, s2, s3, s4, s5, s6, s7, s8⟩
       go_simp
       with_reducible rfl
     rotate_left
     · simp only [Act.put, List.setIfInBounds_toArray, List.set_cons_zero, List.set_cons_succ, i64_w, i32_w]
       rfl
     refine join_ (σ := Value × Value × Value) 4 #[true, true, true, true, true, true, true, false, true, false, false, false] (fun s_ => [(3, s_.1), (6, s_.2.1), (7, s_.2.2), (11, .pointer (some ⟨gb265, 6, none⟩))]) (fun s_ w' => (w'.cell? ⟨gb265, 0, none⟩ = some (.int .i64 a0_0) ∧ w'.cell? ⟨gb265, 1, none⟩ = some (.int .i64 a0_1) ∧ w'.cell? ⟨gb265, 2, none⟩ = some (.int .i64 a0_2) ∧ w'.cell? ⟨gb265, 3, none⟩ = some (.int .i64 a0_3) ∧ w'.cell? ⟨gb265, 4, none⟩ = some (.int .i64 a0_4) ∧ w'.cell? ⟨gb265, 5, none⟩ = some (.int .i64 a0_5) ∧ w'.cell? ⟨gb265, 6, none⟩ = some (.slice A0_6 l0_6.length c0_6) ∧ w'.cell? ⟨gb265, 7, none⟩ = some (.slice A0_7 l0_7.length c0_7) ∧ w'.cell? ⟨gb265, 8, none⟩ = some (.bool a0_8)) ∧ (Kd.R k38 38 w' w.heap.size (fun _ => True) s_.2.1 y270) ∧ (Kd.R k40 40 w' w.heap.size (fun _ => True) s_.2.2 y273) ∧ (w'.heap[gb265]? = some (.cells #[.int .i64 a0_0, .int .i64 a0_1, .int .i64 a0_2, .int .i64 a0_3, .int .i64 a0_4, .int .i64 a0_5, .slice A0_6 l0_6.length c0_6, .slice A0_7 l0_7.length c0_7, .bool a0_8] 29 (0, 0))) ∧ (w'.heap[gb266]? = some (.cells #[.int .i64 0, .int .i64 0, .int .i64 0, .int .i64 0, .int .i64 0, .int .i64 0, .slice none 0 0, .slice none 0 0, .bool false] 29 (0, 0))) ∧ (Below w.heap.size w w')) ?_ ?_
     rotate_left
     · intro hCont
       refine two_ (i := 0) (j := 4) (Ni := some 3) (Nj := some 7) #[true, true, true, false, false, true, true, false, false, false, false, false] #[false, true, true, false, true, true, true, false, false, false, false, false] rfl rfl rfl rfl (two_of HT_.out (by kernel_rfl)) (by decide) (by decide) (fun K hK => ?_) (fun K hK => ?_)
       · skip
         refine Kd.R_lit_step k38 _ 38 ?hg (N := 3) ?hd (xs := ([] : List (S38))) (inner := []) (ok := fun _ => True) (okp := fun _ => True) ?hr ?hp (fun _ hk => hk) trivial (Below.refl _ _) (Nat.le_refl _) (by simp) ?_; (case hd => rfl); (case hg => rfl); (case hr => first | (go_simp; done) | (go_simp; rfl)); (case hp => exact (Reps.none _ _))
         intro v268 w7 ho8 hb hg_ hnew_
         clear hg_ hnew_
         (first | rw [← Ny267.out] at ho8 | (simp only [Int.reduceToNat] at ho8; rw [← Ny267.out] at ho8))
         have n0_ := Aside0.mk (Kd.R_lower ho8 (below_size (by repeat (first | (with_reducible first | exact HB.out | apply below_alloc | apply pw_below_drewN | apply below_drew1 | refine below_set ?_ GE265.out | refine below_set ?_ GE266.out) | exact HB.out))))
         have n1_ := Aside0.mk (blk_below (kb_ BK265.out) hb)
         have n2_ := Aside0.mk (blk_below (kb_ BK266.out) hb)
         have n3_ := Aside0.mk (below_step (by repeat (first | (with_reducible first | exact HB.out | apply below_alloc | apply pw_below_drewN | apply below_drew1 | refine below_set ?_ GE265.out | refine below_set ?_ GE266.out) | exact HB.out)) hb)
         clear BK265
         clear BK266
         clear HB
         have HO269 := n0_
         have BK265 := n1_
         have BK266 := n2_
         have HB := n3_
         clear n0_ n1_ n2_ n3_
         clear hb ho8
         refine hK.out _ _ ⟨(blk_cell BK265.out 0).trans rfl, (blk_cell BK265.out 1).trans rfl, (blk_cell BK265.out 2).trans rfl, (blk_cell BK265.out 3).trans rfl, (blk_cell BK265.out 4).trans rfl, (blk_cell BK265.out 5).trans rfl, (blk_cell BK265.out 6).trans rfl, (blk_cell BK265.out 7).trans rfl, (blk_cell BK265.out 8).trans rfl⟩ (fun hHeld => ?_)
         clear hK K
         refine norm_ (a' := ?_) ?_ ?_
         rotate_left
         · show Act.put _ (some 3) _ = _
           simp only [Act.put, List.setIfInBounds_toArray, List.set_cons_zero, List.set_cons_succ, i64_w, i32_w]
           rfl
         refine two_ (i := 3) (j := 4) (Ni := some 6) (Nj := some 7) #[true, true, true, true, false, true, true, false, false, false, false, false] #[true, true, true, false, true, true, true, false, false, false, false, false] rfl rfl rfl rfl (two_of HT_.out (by kernel_rfl)) (by decide) (by decide) (fun K hK => ?_) (fun K hK => ?_)
         · skip
           refine Kd.R_append_rows_step k38 (w0 := w) w.heap.size (by rfl) (.tmp 3) (.tmp 5) 26 38 (.agg #[(.string ⟨#[]⟩), (.int .i64 0), (.int .i64 0)]) 32 rfl Try.underlying26 info38 rfl (by decide) (by omega) v268 y267 l0_6 _ _ _ (fun _ => True) (fun _ => False) rfl rfl ?aO ?aR (fun _ _ h => h) (fun _ h => h.elim) ?aF ?aB ?aS ?aL ?_
           (case aR => repeat (first | exact (Kd.C_below HR0_6.out HB.out) | (with_reducible refine Kd.C_alloc ?_ _) | (with_reducible refine Kd.C_drewN ?_ _) | (with_reducible refine Kd.C_drew ?_)))
           (case aB => exact (by repeat (first | (with_reducible first | exact HB.out | apply below_alloc | apply pw_below_drewN | apply below_drew1 | refine below_set ?_ GE265.out | refine below_set ?_ GE266.out) | exact HB.out)))
           (case aF => exact (fun _ _ => trivial))
           (case aO => exact (kr_ HO269.out))
           (case aS => exact (below_size (by repeat (first | (with_reducible first | exact HB.out | apply below_alloc | apply pw_below_drewN | apply below_drew1 | refine below_set ?_ GE265.out | refine below_set ?_ GE266.out) | exact HB.out))))
           (case aL => have := LMc2.out; omega)
           intro v271 w9 ho hb hg hat
           rw [← Ny270.out] at ho
           have n0_ := Aside0.mk (blk_grown (kb_ BK265.out) hg (Kd.R_ne HO269.out BK265.out (by decide)))
           have n1_ := Aside0.mk (blk_grown (kb_ BK266.out) hg (Kd.R_ne HO269.out BK266.out (by decide)))
           have n2_ := Aside0.mk (hb)
           have n3_ := Aside0.mk (ho)
           clear BK265
           clear BK266
           clear HB
           clear HO269
           have BK265 := n0_
           have BK266 := n1_
           have HB := n2_
           have HO272 := n3_
           clear n0_ n1_ n2_ n3_
           clear ho hb hg hat
           refine hK.out _ _ ⟨(blk_cell BK265.out 0).trans rfl, (blk_cell BK265.out 1).trans rfl, (blk_cell BK265.out 2).trans rfl, (blk_cell BK265.out 3).trans rfl, (blk_cell BK265.out 4).trans rfl, (blk_cell BK265.out 5).trans rfl, (blk_cell BK265.out 6).trans rfl, (blk_cell BK265.out 7).trans rfl, (blk_cell BK265.out 8).trans rfl⟩ (fun hHeld => ?_)
           clear hK K
           refine norm_ (a' := ?_) ?_ ?_
           rotate_left
           · show Act.put _ (some 6) _ = _
             simp only [Act.put, List.setIfInBounds_toArray, List.set_cons_zero, List.set_cons_succ, i64_w, i32_w]
             rfl
           refine pure_ (i := 8) (N := some 11) (v := ?_) (a' := ?_) #[true, true, true, true, false, true, true, false, true, false, false, false] rfl rfl (any_of HT_.out (by kernel_rfl)) (fun _ _ _ h => h) (Or.inl ⟨by rfl, ?_⟩) ?_ ?_
           rotate_left
           · intro w'
             go_simp
             with_reducible rfl
           rotate_left
           · simp only [Act.put, List.setIfInBounds_toArray, List.set_cons_zero, List.set_cons_succ, i64_w, i32_w]
             rfl
           refine one_ (i := 4) (N := some 7) #[true, true, true, true, true, true, true, false, true, false, false, false] rfl rfl (one_of HT_.out (by kernel_rfl)) (by decide) (fun K hK => ?_)
           refine Kd.R_lit_step k40 _ 40 ?hg (N := 7) ?hd (xs := ([] : List (S40))) (inner := []) (ok := fun _ => True) (okp := fun _ => True) ?hr ?hp (fun _ hk => hk) trivial (Below.refl _ _) (Nat.le_refl _) (by simp) ?_; (case hd => rfl); (case hg => rfl); (case hr => first | (go_simp; done) | (go_simp; rfl)); (case hp => exact (Reps.none _ _))
           intro v274 w10 ho11 hb hg_ hnew_
           clear hg_ hnew_
           (first | rw [← Ny273.out] at ho11 | (simp only [Int.reduceToNat] at ho11; rw [← Ny273.out] at ho11))
           have n0_ := Aside0.mk (Kd.R_below (kr_ HO272.out) hb)
           have n1_ := Aside0.mk (Kd.R_lower ho11 (below_size (by repeat (first | (with_reducible first | exact HB.out | apply below_alloc | apply pw_below_drewN | apply below_drew1 | refine below_set ?_ GE265.out | refine below_set ?_ GE266.out) | exact HB.out))))
           have n2_ := Aside0.mk (blk_below (kb_ BK265.out) hb)
           have n3_ := Aside0.mk (blk_below (kb_ BK266.out) hb)
           have n4_ := Aside0.mk (below_step (by repeat (first | (with_reducible first | exact HB.out | apply below_alloc | apply pw_below_drewN | apply below_drew1 | refine below_set ?_ GE265.out | refine below_set ?_ GE266.out) | exact HB.out)) hb)
           clear HO272
           clear BK265
           clear BK266
           clear HB
           have HO272 := n0_
           have HO275 := n1_
           have BK265 := n2_
           have BK266 := n3_
           have HB := n4_
           clear n0_ n1_ n2_ n3_ n4_
           clear hb ho11
           refine hK.out _ _ ⟨(blk_cell BK265.out 0).trans rfl, (blk_cell BK265.out 1).trans rfl, (blk_cell BK265.out 2).trans rfl, (blk_cell BK265.out 3).trans rfl, (blk_cell BK265.out 4).trans rfl, (blk_cell BK265.out 5).trans rfl, (blk_cell BK265.out 6).trans rfl, (blk_cell BK265.out 7).trans rfl, (blk_cell BK265.out 8).trans rfl⟩ (fun hHeld => ?_)
           clear hK K
           refine norm_ (a' := ?_) ?_ ?_
           rotate_left
           · show Act.put _ (some 7) _ = _
             simp only [Act.put, List.setIfInBounds_toArray, List.set_cons_zero, List.set_cons_succ, i64_w, i32_w]
             rfl
           exact norm_ (by simp only [putAll, Act.put, List.setIfInBounds_toArray, List.set_cons_zero, List.set_cons_succ]) (hCont (v268, v271, v274) _ ⟨hHeld, (kr_ HO272.out), (kr_ HO275.out), (kb_ BK265.out), (kb_ BK266.out), (by repeat (first | (with_reducible first | exact HB.out | apply below_alloc | apply pw_below_drewN | apply below_drew1 | refine below_set ?_ GE265.out | refine below_set ?_ GE266.out) | exact HB.out))⟩)
         · skip
           refine Kd.R_lit_step k40 _ 40 ?hg (N := 7) ?hd (xs := ([] : List (S40))) (inner := []) (ok := fun _ => True) (okp := fun _ => True) ?hr ?hp (fun _ hk => hk) trivial (Below.refl _ _) (Nat.le_refl _) (by simp) ?_; (case hd => rfl); (case hg => rfl); (case hr => first | (go_simp; done) | (go_simp; rfl)); (case hp => exact (Reps.none _ _))
           intro v274 w9 ho10 hb hg_ hnew_
           clear hg_ hnew_
           (first | rw [← Ny273.out] at ho10 | (simp only [Int.reduceToNat] at ho10; rw [← Ny273.out] at ho10))
           have n0_ := Aside0.mk (Kd.R_below (kr_ HO269.out) hb)
           have n1_ := Aside0.mk (Kd.R_lower ho10 (below_size (by repeat (first | (with_reducible first | exact HB.out | apply below_alloc | apply pw_below_drewN | apply below_drew1 | refine below_set ?_ GE265.out | refine below_set ?_ GE266.out) | exact HB.out))))
           have n2_ := Aside0.mk (blk_below (kb_ BK265.out) hb)
           have n3_ := Aside0.mk (blk_below (kb_ BK266.out) hb)
           have n4_ := Aside0.mk (below_step (by repeat (first | (with_reducible first | exact HB.out | apply below_alloc | apply pw_below_drewN | apply below_drew1 | refine below_set ?_ GE265.out | refine below_set ?_ GE266.out) | exact HB.out)) hb)
           clear HO269
           clear BK265
           clear BK266
           clear HB
           have HO269 := n0_
           have HO275 := n1_
           have BK265 := n2_
           have BK266 := n3_
           have HB := n4_
           clear n0_ n1_ n2_ n3_ n4_
           clear hb ho10
           refine hK.out _ _ ⟨(blk_cell BK265.out 0).trans rfl, (blk_cell BK265.out 1).trans rfl, (blk_cell BK265.out 2).trans rfl, (blk_cell BK265.out 3).trans rfl, (blk_cell BK265.out 4).trans rfl, (blk_cell BK265.out 5).trans rfl, (blk_cell BK265.out 6).trans rfl, (blk_cell BK265.out 7).trans rfl, (blk_cell BK265.out 8).trans rfl⟩ (fun hHeld => ?_)
           clear hK K
           refine norm_ (a' := ?_) ?_ ?_
           rotate_left
           · show Act.put _ (some 7) _ = _
             simp only [Act.put, List.setIfInBounds_toArray, List.set_cons_zero, List.set_cons_succ, i64_w, i32_w]
             rfl
           refine one_ (i := 3) (N := some 6) #[true, true, true, true, true, true, true, false, false, false, false, false] rfl rfl (one_of HT_.out (by kernel_rfl)) (by decide) (fun K hK => ?_)
           refine Kd.R_append_rows_step k38 (w0 := w) w.heap.size (by rfl) (.tmp 3) (.tmp 5) 26 38 (.agg #[(.string ⟨#[]⟩), (.int .i64 0), (.int .i64 0)]) 32 rfl Try.underlying26 info38 rfl (by decide) (by omega) v268 y267 l0_6 _ _ _ (fun _ => True) (fun _ => False) rfl rfl ?aO ?aR (fun _ _ h => h) (fun _ h => h.elim) ?aF ?aB ?aS ?aL ?_
           (case aR => repeat (first | exact (Kd.C_below HR0_6.out HB.out) | (with_reducible refine Kd.C_alloc ?_ _) | (with_reducible refine Kd.C_drewN ?_ _) | (with_reducible refine Kd.C_drew ?_)))
           (case aB => exact (by repeat (first | (with_reducible first | exact HB.out | apply below_alloc | apply pw_below_drewN | apply below_drew1 | refine below_set ?_ GE265.out | refine below_set ?_ GE266.out) | exact HB.out)))
           (case aF => exact (fun _ _ => trivial))
           (case aO => exact (kr_ HO269.out))
           (case aS => exact (below_size (by repeat (first | (with_reducible first | exact HB.out | apply below_alloc | apply pw_below_drewN | apply below_drew1 | refine below_set ?_ GE265.out | refine below_set ?_ GE266.out) | exact HB.out))))
           (case aL => have := LMc2.out; omega)
           intro v271 w11 ho hb hg hat
           rw [← Ny270.out] at ho
           have n0_ := Aside0.mk (blk_grown (kb_ BK265.out) hg (Kd.R_ne HO269.out BK265.out (by decide)))
           have n1_ := Aside0.mk (blk_grown (kb_ BK266.out) hg (Kd.R_ne HO269.out BK266.out (by decide)))
           have n2_ := Aside0.mk (Kd.R_over' (kr_ HO275.out) (Kd.R_typed (kr_ HO269.out)) (by decide) hg)
           have n3_ := Aside0.mk (hb)
           have n4_ := Aside0.mk (ho)
           clear BK265
           clear BK266
           clear HO275
           clear HB
           clear HO269
           have BK265 := n0_
           have BK266 := n1_
           have HO275 := n2_
           have HB := n3_
           have HO272 := n4_
           clear n0_ n1_ n2_ n3_ n4_
           clear ho hb hg hat
           refine hK.out _ _ ⟨(blk_cell BK265.out 0).trans rfl, (blk_cell BK265.out 1).trans rfl, (blk_cell BK265.out 2).trans rfl, (blk_cell BK265.out 3).trans rfl, (blk_cell BK265.out 4).trans rfl, (blk_cell BK265.out 5).trans rfl, (blk_cell BK265.out 6).trans rfl, (blk_cell BK265.out 7).trans rfl, (blk_cell BK265.out 8).trans rfl⟩ (fun hHeld => ?_)
           clear hK K
           refine norm_ (a' := ?_) ?_ ?_
           rotate_left
           · show Act.put _ (some 6) _ = _
             simp only [Act.put, List.setIfInBounds_toArray, List.set_cons_zero, List.set_cons_succ, i64_w, i32_w]
             rfl
           refine pure_ (i := 8) (N := some 11) (v := ?_) (a' := ?_) #[true, true, true, true, true, true, true, false, true, false, false, false] rfl rfl (any_of HT_.out (by kernel_rfl)) (fun _ _ _ h => h) (Or.inl ⟨by rfl, ?_⟩) ?_ ?_
           rotate_left
           · intro w'
             go_simp
             with_reducible rfl
           rotate_left
           · simp only [Act.put, List.setIfInBounds_toArray, List.set_cons_zero, List.set_cons_succ, i64_w, i32_w]
             rfl
           exact norm_ (by simp only [putAll, Act.put, List.setIfInBounds_toArray, List.set_cons_zero, List.set_cons_succ]) (hCont (v268, v271, v274) _ ⟨hHeld, (kr_ HO272.out), (kr_ HO275.out), (kb_ BK265.out), (kb_ BK266.out), (by repeat (first | (with_reducible first | exact HB.out | apply below_alloc | apply pw_below_drewN | apply below_drew1 | refine below_set ?_ GE265.out | refine below_set ?_ GE266.out) | exact HB.out))⟩)
       · skip
         refine Kd.R_lit_step k40 _ 40 ?hg (N := 7) ?hd (xs := ([] : List (S40))) (inner := []) (ok := fun _ => True) (okp := fun _ => True) ?hr ?hp (fun _ hk => hk) trivial (Below.refl _ _) (Nat.le_refl _) (by simp) ?_; (case hd => rfl); (case hg => rfl); (case hr => first | (go_simp; done) | (go_simp; rfl)); (case hp => exact (Reps.none _ _))
         intro v274 w7 ho8 hb hg_ hnew_
         clear hg_ hnew_
         (first | rw [← Ny273.out] at ho8 | (simp only [Int.reduceToNat] at ho8; rw [← Ny273.out] at ho8))
         have n0_ := Aside0.mk (Kd.R_lower ho8 (below_size (by repeat (first | (with_reducible first | exact HB.out | apply below_alloc | apply pw_below_drewN | apply below_drew1 | refine below_set ?_ GE265.out | refine below_set ?_ GE266.out) | exact HB.out))))
         have n1_ := Aside0.mk (blk_below (kb_ BK265.out) hb)
         have n2_ := Aside0.mk (blk_below (kb_ BK266.out) hb)
         have n3_ := Aside0.mk (below_step (by repeat (first | (with_reducible first | exact HB.out | apply below_alloc | apply pw_below_drewN | apply below_drew1 | refine below_set ?_ GE265.out | refine below_set ?_ GE266.out) | exact HB.out)) hb)
         clear BK265
         clear BK266
         clear HB
         have HO275 := n0_
         have BK265 := n1_
         have BK266 := n2_
         have HB := n3_
         clear n0_ n1_ n2_ n3_
         clear hb ho8
         refine hK.out _ _ ⟨(blk_cell BK265.out 0).trans rfl, (blk_cell BK265.out 1).trans rfl, (blk_cell BK265.out 2).trans rfl, (blk_cell BK265.out 3).trans rfl, (blk_cell BK265.out 4).trans rfl, (blk_cell BK265.out 5).trans rfl, (blk_cell BK265.out 6).trans rfl, (blk_cell BK265.out 7).trans rfl, (blk_cell BK265.out 8).trans rfl⟩ (fun hHeld => ?_)
         clear hK K
         refine norm_ (a' := ?_) ?_ ?_
         rotate_left
         · show Act.put _ (some 7) _ = _
           simp only [Act.put, List.setIfInBounds_toArray, List.set_cons_zero, List.set_cons_succ, i64_w, i32_w]
           rfl
         refine one_ (i := 0) (N := some 3) #[true, true, true, false, true, true, true, false, false, false, false, false] rfl rfl (one_of HT_.out (by kernel_rfl)) (by decide) (fun K hK => ?_)
         refine Kd.R_lit_step k38 _ 38 ?hg (N := 3) ?hd (xs := ([] : List (S38))) (inner := []) (ok := fun _ => True) (okp := fun _ => True) ?hr ?hp (fun _ hk => hk) trivial (Below.refl _ _) (Nat.le_refl _) (by simp) ?_; (case hd => rfl); (case hg => rfl); (case hr => first | (go_simp; done) | (go_simp; rfl)); (case hp => exact (Reps.none _ _))
         intro v268 w9 ho10 hb hg_ hnew_
         clear hg_ hnew_
         (first | rw [← Ny267.out] at ho10 | (simp only [Int.reduceToNat] at ho10; rw [← Ny267.out] at ho10))
         have n0_ := Aside0.mk (Kd.R_below (kr_ HO275.out) hb)
         have n1_ := Aside0.mk (Kd.R_lower ho10 (below_size (by repeat (first | (with_reducible first | exact HB.out | apply below_alloc | apply pw_below_drewN | apply below_drew1 | refine below_set ?_ GE265.out | refine below_set ?_ GE266.out) | exact HB.out))))
         have n2_ := Aside0.mk (blk_below (kb_ BK265.out) hb)
         have n3_ := Aside0.mk (blk_below (kb_ BK266.out) hb)
         have n4_ := Aside0.mk (below_step (by repeat (first | (with_reducible first | exact HB.out | apply below_alloc | apply pw_below_drewN | apply below_drew1 | refine below_set ?_ GE265.out | refine below_set ?_ GE266.out) | exact HB.out)) hb)
         clear HO275
         clear BK265
         clear BK266
         clear HB
         have HO275 := n0_
         have HO269 := n1_
         have BK265 := n2_
         have BK266 := n3_
         have HB := n4_
         clear n0_ n1_ n2_ n3_ n4_
         clear hb ho10
         refine hK.out _ _ ⟨(blk_cell BK265.out 0).trans rfl, (blk_cell BK265.out 1).trans rfl, (blk_cell BK265.out 2).trans rfl, (blk_cell BK265.out 3).trans rfl, (blk_cell BK265.out 4).trans rfl, (blk_cell BK265.out 5).trans rfl, (blk_cell BK265.out 6).trans rfl, (blk_cell BK265.out 7).trans rfl, (blk_cell BK265.out 8).trans rfl⟩ (fun hHeld => ?_)
         clear hK K
         refine norm_ (a' := ?_) ?_ ?_
         rotate_left
         · show Act.put _ (some 3) _ = _
           simp only [Act.put, List.setIfInBounds_toArray, List.set_cons_zero, List.set_cons_succ, i64_w, i32_w]
           rfl
         refine one_ (i := 3) (N := some 6) #[true, true, true, true, true, true, true, false, false, false, false, false] rfl rfl (one_of HT_.out (by kernel_rfl)) (by decide) (fun K hK => ?_)
         refine Kd.R_append_rows_step k38 (w0 := w) w.heap.size (by rfl) (.tmp 3) (.tmp 5) 26 38 (.agg #[(.string ⟨#[]⟩), (.int .i64 0), (.int .i64 0)]) 32 rfl Try.underlying26 info38 rfl (by decide) (by omega) v268 y267 l0_6 _ _ _ (fun _ => True) (fun _ => False) rfl rfl ?aO ?aR (fun _ _ h => h) (fun _ h => h.elim) ?aF ?aB ?aS ?aL ?_
         (case aR => repeat (first | exact (Kd.C_below HR0_6.out HB.out) | (with_reducible refine Kd.C_alloc ?_ _) | (with_reducible refine Kd.C_drewN ?_ _) | (with_reducible refine Kd.C_drew ?_)))
         (case aB => exact (by repeat (first | (with_reducible first | exact HB.out | apply below_alloc | apply pw_below_drewN | apply below_drew1 | refine below_set ?_ GE265.out | refine below_set ?_ GE266.out) | exact HB.out)))
         (case aF => exact (fun _ _ => trivial))
         (case aO => exact (kr_ HO269.out))
         (case aS => exact (below_size (by repeat (first | (with_reducible first | exact HB.out | apply below_alloc | apply pw_below_drewN | apply below_drew1 | refine below_set ?_ GE265.out | refine below_set ?_ GE266.out) | exact HB.out))))
         (case aL => have := LMc2.out; omega)
         intro v271 w11 ho hb hg hat
         rw [← Ny270.out] at ho
         have n0_ := Aside0.mk (blk_grown (kb_ BK265.out) hg (Kd.R_ne HO269.out BK265.out (by decide)))
         have n1_ := Aside0.mk (blk_grown (kb_ BK266.out) hg (Kd.R_ne HO269.out BK266.out (by decide)))
         have n2_ := Aside0.mk (Kd.R_over' (kr_ HO275.out) (Kd.R_typed (kr_ HO269.out)) (by decide) hg)
         have n3_ := Aside0.mk (hb)
         have n4_ := Aside0.mk (ho)
         clear BK265
         clear BK266
         clear HO275
         clear HB
         clear HO269
         have BK265 := n0_
         have BK266 := n1_
         have HO275 := n2_
         have HB := n3_
         have HO272 := n4_
         clear n0_ n1_ n2_ n3_ n4_
         clear ho hb hg hat
         refine hK.out _ _ ⟨(blk_cell BK265.out 0).trans rfl, (blk_cell BK265.out 1).trans rfl, (blk_cell BK265.out 2).trans rfl, (blk_cell BK265.out 3).trans rfl, (blk_cell BK265.out 4).trans rfl, (blk_cell BK265.out 5).trans rfl, (blk_cell BK265.out 6).trans rfl, (blk_cell BK265.out 7).trans rfl, (blk_cell BK265.out 8).trans rfl⟩ (fun hHeld => ?_)
         clear hK K
         refine norm_ (a' := ?_) ?_ ?_
         rotate_left
         · show Act.put _ (some 6) _ = _
           simp only [Act.put, List.setIfInBounds_toArray, List.set_cons_zero, List.set_cons_succ, i64_w, i32_w]
           rfl
         refine pure_ (i := 8) (N := some 11) (v := ?_) (a' := ?_) #[true, true, true, true, true, true, true, false, true, false, false, false] rfl rfl (any_of HT_.out (by kernel_rfl)) (fun _ _ _ h => h) (Or.inl ⟨by rfl, ?_⟩) ?_ ?_
         rotate_left
         · intro w'
           go_simp
           with_reducible rfl
         rotate_left
         · simp only [Act.put, List.setIfInBounds_toArray, List.set_cons_zero, List.set_cons_succ, i64_w, i32_w]
           rfl
         exact norm_ (by simp only [putAll, Act.put, List.setIfInBounds_toArray, List.set_cons_zero, List.set_cons_succ]) (hCont (v268, v271, v274) _ ⟨hHeld, (kr_ HO272.out), (kr_ HO275.out), (kb_ BK265.out), (kb_ BK266.out), (by repeat (first | (with_reducible first | exact HB.out | apply below_alloc | apply pw_below_drewN | apply below_drew1 | refine below_set ?_ GE265.out | refine below_set ?_ GE266.out) | exact HB.out))⟩)
     rintro ⟨v268, v271, v274⟩ w12 ⟨hS_, h0_, h1_, h2_, h3_, h4_⟩
     have n0_ : Aside0 (Kd.R k38 38 w12 w.heap.size (fun _ => True) v271 y270) := ⟨h0_⟩
     have n1_ : Aside0 (Kd.R k40 40 w12 w.heap.size (fun _ => True) v274 y273) := ⟨h1_⟩
     have n2_ : Aside0 (w12.heap[gb265]? = some (.cells #[.int .i64 a0_0, .int .i64 a0_1, .int .i64 a0_2, .int .i64 a0_3, .int .i64 a0_4, .int .i64 a0_5, .slice A0_6 l0_6.length c0_6, .slice A0_7 l0_7.length c0_7, .bool a0_8] 29 (0, 0))) := ⟨h2_⟩
     have n3_ : Aside0 (w12.heap[gb266]? = some (.cells #[.int .i64 0, .int .i64 0, .int .i64 0, .int .i64 0, .int .i64 0, .int .i64 0, .slice none 0 0, .slice none 0 0, .bool false] 29 (0, 0))) := ⟨h3_⟩
     have n4_ : Aside0 (Below w.heap.size w w12) := ⟨h4_⟩
     clear BK265
     clear BK266
     clear HB
     clear h0_ h1_ h2_ h3_ h4_
     have HO272 := n0_
     have HO275 := n1_
     have BK265 := n2_
     have BK266 := n3_
     have HB := n4_
     clear n0_ n1_ n2_ n3_ n4_
     have hHeld : w12.cell? ⟨gb265, 0, none⟩ = some (.int .i64 a0_0) ∧ w12.cell? ⟨gb265, 1, none⟩ = some (.int .i64 a0_1) ∧ w12.cell? ⟨gb265, 2, none⟩ = some (.int .i64 a0_2) ∧ w12.cell? ⟨gb265, 3, none⟩ = some (.int .i64 a0_3) ∧ w12.cell? ⟨gb265, 4, none⟩ = some (.int .i64 a0_4) ∧ w12.cell? ⟨gb265, 5, none⟩ = some (.int .i64 a0_5) ∧ w12.cell? ⟨gb265, 6, none⟩ = some (.slice A0_6 l0_6.length c0_6) ∧ w12.cell? ⟨gb265, 7, none⟩ = some (.slice A0_7 l0_7.length c0_7) ∧ w12.cell? ⟨gb265, 8, none⟩ = some (.bool a0_8) := hS_
     refine norm_ (a' := ?_) ?_ ?_
     rotate_left
     · simp only [putAll, Act.put, List.setIfInBounds_toArray, List.set_cons_zero, List.set_cons_succ]
       rfl
     refine one_ (i := 7) (N := some 10) #[true, true, true, true, true, true, true, true, true, false, false, false] rfl rfl (one_of HT_.out (by kernel_rfl)) (by decide) (fun K hK => ?_)
     refine Kd.R_append_rows_step k40 (w0 := w) w.heap.size (by rfl) (.tmp 7) (.tmp 9) 27 40 (.agg #[(.string ⟨#[]⟩), (.string ⟨#[]⟩)]) 32 rfl Try.underlying27 info40 rfl (by decide) (by omega) v274 y273 l0_7 _ _ _ (fun _ => True) (fun _ => False) rfl rfl ?aO ?aR (fun _ _ h => h) (fun _ h => h.elim) ?aF ?aB ?aS ?aL ?_
     (case aR => repeat (first | exact (Kd.C_below HR0_7.out HB.out) | (with_reducible refine Kd.C_alloc ?_ _) | (with_reducible refine Kd.C_drewN ?_ _) | (with_reducible refine Kd.C_drew ?_)))
     (case aB => exact (by repeat (first | (with_reducible first | exact HB.out | apply below_alloc | apply pw_below_drewN | apply below_drew1 | refine below_set ?_ GE265.out | refine below_set ?_ GE266.out) | exact HB.out)))
     (case aF => exact (fun _ _ => trivial))
     (case aO => exact (kr_ HO275.out))
     (case aS => exact (below_size (by repeat (first | (with_reducible first | exact HB.out | apply below_alloc | apply pw_below_drewN | apply below_drew1 | refine below_set ?_ GE265.out | refine below_set ?_ GE266.out) | exact HB.out))))
     (case aL => have := LMc3.out; omega)
     intro v277 w13 ho hb hg hat
     rw [← Ny276.out] at ho
     have n0_ := Aside0.mk (blk_grown (kb_ BK265.out) hg (Kd.R_ne HO275.out BK265.out (by decide)))
     have n1_ := Aside0.mk (blk_grown (kb_ BK266.out) hg (Kd.R_ne HO275.out BK266.out (by decide)))
     have n2_ := Aside0.mk (Kd.R_over' (kr_ HO272.out) (Kd.R_typed (kr_ HO275.out)) (by decide) hg)
     have n3_ := Aside0.mk (hb)
     have n4_ := Aside0.mk (ho)
     clear BK265
     clear BK266
     clear HO272
     clear HB
     clear HO275
     have BK265 := n0_
     have BK266 := n1_
     have HO272 := n2_
     have HB := n3_
     have HO278 := n4_
     clear n0_ n1_ n2_ n3_ n4_
     clear ho hb hg hat
     obtain ⟨Ao14, co14, eo14⟩ := Kd.R_slice HO272.out
     (first | subst eo14 | (injection eo14 with f1_ f2_ f3_; have f4_ := f1_.symm; have f5_ := f3_.symm; clear f1_ f2_ f3_; subst f4_; subst f5_))
     obtain ⟨Ao16, co16, eo16⟩ := Kd.R_slice HO278.out
     (first | subst eo16 | (injection eo16 with f1_ f2_ f3_; have f4_ := f1_.symm; have f5_ := f3_.symm; clear f1_ f2_ f3_; subst f4_; subst f5_))
     refine hK.out _ _ ⟨(blk_cell BK265.out 0).trans rfl, (blk_cell BK265.out 1).trans rfl, (blk_cell BK265.out 2).trans rfl, (blk_cell BK265.out 3).trans rfl, (blk_cell BK265.out 4).trans rfl, (blk_cell BK265.out 5).trans rfl, (blk_cell BK265.out 6).trans rfl, (blk_cell BK265.out 7).trans rfl, (blk_cell BK265.out 8).trans rfl⟩ (fun hHeld => ?_)
     clear hK K
     refine norm_ (a' := ?_) ?_ ?_
     rotate_left
     · show Act.put _ (some 10) _ = _
       simp only [Act.put, List.setIfInBounds_toArray, List.set_cons_zero, List.set_cons_succ, i64_w, i32_w]
       rfl
     refine last_ (i := 9) (N := none) #[true, true, true, true, true, true, true, true, true, true, false, false] rfl rfl (one_of HT_.out (by kernel_rfl)) (by decide) (fun K hK => ?_)
     have hs15 : w13.cell? ⟨gb265, 6, none⟩ = some (.slice A0_6 l0_6.length c0_6) := (blk_cell BK265.out 6).trans rfl
     have hfs15 := blk_frozen BK265.out 6
     have hns15_1 := NB266_265.out
     have hms15_1 := NB265_266.out
     refine skip_ (w1 := ?_) (by rfl) rfl ?_ ?_
     rotate_left
     · go_simp
       rfl
     refine hK.out _ _ ?_
     clear hK K
     refine pure_ (i := 10) (N := some 12) (v := ?_) (a' := ?_) #[true, true, true, true, true, true, true, true, true, true, true, false] rfl rfl (any_of HT_.out (by kernel_rfl)) (fun _ _ _ h => h) (Or.inl ⟨by rfl, ?_⟩) ?_ ?_
     rotate_left
     · intro w'
       go_simp
       with_reducible rfl
     rotate_left
     · simp only [Act.put, List.setIfInBounds_toArray, List.set_cons_zero, List.set_cons_succ, i64_w, i32_w]
       rfl
     refine last_ (i := 11) (N := none) #[true, true, true, true, true, true, true, true, true, true, true, true] rfl rfl (one_of HT_.out (by kernel_rfl)) (by decide) (fun K hK => ?_)
     have hs17 : w13.cell? ⟨gb265, 7, none⟩ = some (.slice A0_7 l0_7.length c0_7) := (blk_cell BK265.out 7).trans rfl
     have hfs17 := blk_frozen BK265.out 7
     have hns17_1 := NB266_265.out
     have hms17_1 := NB265_266.out
     refine skip_ (w1 := ?_) (by rfl) rfl ?_ ?_
     rotate_left
     · go_simp
       rfl
     refine hK.out _ _ ?_
     clear hK K
     refine done_ (done_of HT_.out (by kernel_rfl)) ?_
     have hnb18 := NB265_266.out
     have hnc18 := NB266_265.out
     refine blk9_ BK265.out fun hcz19_0 hcz19_1 hcz19_2 hcz19_3 hcz19_4 hcz19_5 hcz19_6 hcz19_7 hcz19_8 hfz19_0 hfz19_1 hfz19_2 hfz19_3 hfz19_4 hfz19_5 hfz19_6 hfz19_7 hfz19_8 => ?_
     refine blk9_ BK266.out fun hcz20_0 hcz20_1 hcz20_2 hcz20_3 hcz20_4 hcz20_5 hcz20_6 hcz20_7 hcz20_8 hfz20_0 hfz20_1 hfz20_2 hfz20_3 hfz20_4 hfz20_5 hfz20_6 hfz20_7 hfz20_8 => ?_
     try go_wp2_with (first | ((with_reducible refine gate_store (t := 29) (p := 2) rfl ?_); refine store_event (t := 29) (p := 2) (v := ?vo_w21) (w1 := (((((((((((w13.setCell ⟨gb265, 6, none⟩ (.slice Ao14 y270.length co14)).setCell ⟨gb265, 7, none⟩ (.slice Ao16 y276.length co16)).setCell ⟨gb266, 0, none⟩ (.int .i64 a0_0)).setCell ⟨gb266, 1, none⟩ (.int .i64 a0_1)).setCell ⟨gb266, 2, none⟩ (.int .i64 a0_2)).setCell ⟨gb266, 3, none⟩ (.int .i64 a0_3)).setCell ⟨gb266, 4, none⟩ (.int .i64 a0_4)).setCell ⟨gb266, 5, none⟩ (.int .i64 a0_5)).setCell ⟨gb266, 6, none⟩ (.slice Ao14 y270.length co14)).setCell ⟨gb266, 7, none⟩ (.slice Ao16 y276.length co16)).setCell ⟨gb266, 8, none⟩ (.bool a0_8))) ?hg ?ho ?hn ?hr ?_; (case ho => rfl); (case hg => rfl); (case hn => rfl); (case hr => first | (go_simp; done) | (go_simp; rfl)); intro w21 hw; have n0_ : Aside0 (Kd.R k38 38 w21 w.heap.size (fun _ => True) (.slice Ao14 y270.length co14) y270) := ⟨(by rw [hw]; exact (by (with_reducible repeat (first | apply Kd.R_alloc | apply Kd.R_drewN | apply Kd.R_drew)); exact Kd.R_mono (Kd.R_far (p := ⟨gb266, 8, none⟩) (Kd.R_far (p := ⟨gb266, 7, none⟩) (Kd.R_far (p := ⟨gb266, 6, none⟩) (Kd.R_far (p := ⟨gb266, 5, none⟩) (Kd.R_far (p := ⟨gb266, 4, none⟩) (Kd.R_far (p := ⟨gb266, 3, none⟩) (Kd.R_far (p := ⟨gb266, 2, none⟩) (Kd.R_far (p := ⟨gb266, 1, none⟩) (Kd.R_far (p := ⟨gb266, 0, none⟩) (Kd.R_far (p := ⟨gb265, 7, none⟩) (Kd.R_far (p := ⟨gb265, 6, none⟩) (Kd.R_types (Kd.R_types HO272.out BK265.out (by decide)) BK266.out (by decide)) (fun _ hk => hk.1.2) (.slice Ao14 y270.length co14)) (fun _ hk => hk.1.2) (.slice Ao16 y276.length co16)) (fun _ hk => hk.2) (.int .i64 a0_0)) (fun _ hk => hk.2) (.int .i64 a0_1)) (fun _ hk => hk.2) (.int .i64 a0_2)) (fun _ hk => hk.2) (.int .i64 a0_3)) (fun _ hk => hk.2) (.int .i64 a0_4)) (fun _ hk => hk.2) (.int .i64 a0_5)) (fun _ hk => hk.2) (.slice Ao14 y270.length co14)) (fun _ hk => hk.2) (.slice Ao16 y276.length co16)) (fun _ hk => hk.2) (.bool a0_8)) (fun _ hk => trivial)))⟩; have n1_ : Aside0 (Kd.R k40 40 w21 w.heap.size (fun _ => True) (.slice Ao16 y276.length co16) y276) := ⟨(by rw [hw]; exact (by (with_reducible repeat (first | apply Kd.R_alloc | apply Kd.R_drewN | apply Kd.R_drew)); exact Kd.R_mono (Kd.R_far (p := ⟨gb266, 8, none⟩) (Kd.R_far (p := ⟨gb266, 7, none⟩) (Kd.R_far (p := ⟨gb266, 6, none⟩) (Kd.R_far (p := ⟨gb266, 5, none⟩) (Kd.R_far (p := ⟨gb266, 4, none⟩) (Kd.R_far (p := ⟨gb266, 3, none⟩) (Kd.R_far (p := ⟨gb266, 2, none⟩) (Kd.R_far (p := ⟨gb266, 1, none⟩) (Kd.R_far (p := ⟨gb266, 0, none⟩) (Kd.R_far (p := ⟨gb265, 7, none⟩) (Kd.R_far (p := ⟨gb265, 6, none⟩) (Kd.R_types (Kd.R_types HO278.out BK265.out (by decide)) BK266.out (by decide)) (fun _ hk => hk.1.2) (.slice Ao14 y270.length co14)) (fun _ hk => hk.1.2) (.slice Ao16 y276.length co16)) (fun _ hk => hk.2) (.int .i64 a0_0)) (fun _ hk => hk.2) (.int .i64 a0_1)) (fun _ hk => hk.2) (.int .i64 a0_2)) (fun _ hk => hk.2) (.int .i64 a0_3)) (fun _ hk => hk.2) (.int .i64 a0_4)) (fun _ hk => hk.2) (.int .i64 a0_5)) (fun _ hk => hk.2) (.slice Ao14 y270.length co14)) (fun _ hk => hk.2) (.slice Ao16 y276.length co16)) (fun _ hk => hk.2) (.bool a0_8)) (fun _ hk => trivial)))⟩; have n2_ : Aside0 (w21.heap[gb265]? = some (.cells #[.int .i64 a0_0, .int .i64 a0_1, .int .i64 a0_2, .int .i64 a0_3, .int .i64 a0_4, .int .i64 a0_5, .slice Ao14 y270.length co14, .slice Ao16 y276.length co16, .bool a0_8] 29 (0, 0))) := ⟨(by rw [hw]; exact (by (with_reducible repeat (first | refine blk_drewN ?_ _ | refine blk_drew ?_ | refine blk_alloc ?_ _)); refine blk_far ?_ NB265_266.out _; (with_reducible repeat (first | refine blk_drewN ?_ _ | refine blk_drew ?_ | refine blk_alloc ?_ _)); refine blk_far ?_ NB265_266.out _; (with_reducible repeat (first | refine blk_drewN ?_ _ | refine blk_drew ?_ | refine blk_alloc ?_ _)); refine blk_far ?_ NB265_266.out _; (with_reducible repeat (first | refine blk_drewN ?_ _ | refine blk_drew ?_ | refine blk_alloc ?_ _)); refine blk_far ?_ NB265_266.out _; (with_reducible repeat (first | refine blk_drewN ?_ _ | refine blk_drew ?_ | refine blk_alloc ?_ _)); refine blk_far ?_ NB265_266.out _; (with_reducible repeat (first | refine blk_drewN ?_ _ | refine blk_drew ?_ | refine blk_alloc ?_ _)); refine blk_far ?_ NB265_266.out _; (with_reducible repeat (first | refine blk_drewN ?_ _ | refine blk_drew ?_ | refine blk_alloc ?_ _)); refine blk_far ?_ NB265_266.out _; (with_reducible repeat (first | refine blk_drewN ?_ _ | refine blk_drew ?_ | refine blk_alloc ?_ _)); refine blk_far ?_ NB265_266.out _; (with_reducible repeat (first | refine blk_drewN ?_ _ | refine blk_drew ?_ | refine blk_alloc ?_ _)); refine blk_far ?_ NB265_266.out _; (with_reducible repeat (first | refine blk_drewN ?_ _ | refine blk_drew ?_ | refine blk_alloc ?_ _)); refine blk_put (cs := #[.int .i64 a0_0, .int .i64 a0_1, .int .i64 a0_2, .int .i64 a0_3, .int .i64 a0_4, .int .i64 a0_5, .slice Ao14 y270.length co14, .slice A0_7 l0_7.length c0_7, .bool a0_8]) ?_ 7 _ rfl; (with_reducible repeat (first | refine blk_drewN ?_ _ | refine blk_drew ?_ | refine blk_alloc ?_ _)); refine blk_put (cs := #[.int .i64 a0_0, .int .i64 a0_1, .int .i64 a0_2, .int .i64 a0_3, .int .i64 a0_4, .int .i64 a0_5, .slice A0_6 l0_6.length c0_6, .slice A0_7 l0_7.length c0_7, .bool a0_8]) ?_ 6 _ rfl; (with_reducible repeat (first | refine blk_drewN ?_ _ | refine blk_drew ?_ | refine blk_alloc ?_ _)); exact BK265.out))⟩; have n3_ : Aside0 (w21.heap[gb266]? = some (.cells #[.int .i64 a0_0, .int .i64 a0_1, .int .i64 a0_2, .int .i64 a0_3, .int .i64 a0_4, .int .i64 a0_5, .slice Ao14 y270.length co14, .slice Ao16 y276.length co16, .bool a0_8] 29 (0, 0))) := ⟨(by rw [hw]; exact (by (with_reducible repeat (first | refine blk_drewN ?_ _ | refine blk_drew ?_ | refine blk_alloc ?_ _)); refine blk_put (cs := #[.int .i64 a0_0, .int .i64 a0_1, .int .i64 a0_2, .int .i64 a0_3, .int .i64 a0_4, .int .i64 a0_5, .slice Ao14 y270.length co14, .slice Ao16 y276.length co16, .bool false]) ?_ 8 _ rfl; (with_reducible repeat (first | refine blk_drewN ?_ _ | refine blk_drew ?_ | refine blk_alloc ?_ _)); refine blk_put (cs := #[.int .i64 a0_0, .int .i64 a0_1, .int .i64 a0_2, .int .i64 a0_3, .int .i64 a0_4, .int .i64 a0_5, .slice Ao14 y270.length co14, .slice none 0 0, .bool false]) ?_ 7 _ rfl; (with_reducible repeat (first | refine blk_drewN ?_ _ | refine blk_drew ?_ | refine blk_alloc ?_ _)); refine blk_put (cs := #[.int .i64 a0_0, .int .i64 a0_1, .int .i64 a0_2, .int .i64 a0_3, .int .i64 a0_4, .int .i64 a0_5, .slice none 0 0, .slice none 0 0, .bool false]) ?_ 6 _ rfl; (with_reducible repeat (first | refine blk_drewN ?_ _ | refine blk_drew ?_ | refine blk_alloc ?_ _)); refine blk_put (cs := #[.int .i64 a0_0, .int .i64 a0_1, .int .i64 a0_2, .int .i64 a0_3, .int .i64 a0_4, .int .i64 0, .slice none 0 0, .slice none 0 0, .bool false]) ?_ 5 _ rfl; (with_reducible repeat (first | refine blk_drewN ?_ _ | refine blk_drew ?_ | refine blk_alloc ?_ _)); refine blk_put (cs := #[.int .i64 a0_0, .int .i64 a0_1, .int .i64 a0_2, .int .i64 a0_3, .int .i64 0, .int .i64 0, .slice none 0 0, .slice none 0 0, .bool false]) ?_ 4 _ rfl; (with_reducible repeat (first | refine blk_drewN ?_ _ | refine blk_drew ?_ | refine blk_alloc ?_ _)); refine blk_put (cs := #[.int .i64 a0_0, .int .i64 a0_1, .int .i64 a0_2, .int .i64 0, .int .i64 0, .int .i64 0, .slice none 0 0, .slice none 0 0, .bool false]) ?_ 3 _ rfl; (with_reducible repeat (first | refine blk_drewN ?_ _ | refine blk_drew ?_ | refine blk_alloc ?_ _)); refine blk_put (cs := #[.int .i64 a0_0, .int .i64 a0_1, .int .i64 0, .int .i64 0, .int .i64 0, .int .i64 0, .slice none 0 0, .slice none 0 0, .bool false]) ?_ 2 _ rfl; (with_reducible repeat (first | refine blk_drewN ?_ _ | refine blk_drew ?_ | refine blk_alloc ?_ _)); refine blk_put (cs := #[.int .i64 a0_0, .int .i64 0, .int .i64 0, .int .i64 0, .int .i64 0, .int .i64 0, .slice none 0 0, .slice none 0 0, .bool false]) ?_ 1 _ rfl; (with_reducible repeat (first | refine blk_drewN ?_ _ | refine blk_drew ?_ | refine blk_alloc ?_ _)); refine blk_put (cs := #[.int .i64 0, .int .i64 0, .int .i64 0, .int .i64 0, .int .i64 0, .int .i64 0, .slice none 0 0, .slice none 0 0, .bool false]) ?_ 0 _ rfl; (with_reducible repeat (first | refine blk_drewN ?_ _ | refine blk_drew ?_ | refine blk_alloc ?_ _)); refine blk_far ?_ NB266_265.out _; (with_reducible repeat (first | refine blk_drewN ?_ _ | refine blk_drew ?_ | refine blk_alloc ?_ _)); refine blk_far ?_ NB266_265.out _; (with_reducible repeat (first | refine blk_drewN ?_ _ | refine blk_drew ?_ | refine blk_alloc ?_ _)); exact BK266.out))⟩; have n4_ : Aside0 (Below w.heap.size w w21) := ⟨(by rw [hw]; exact (by repeat (first | (with_reducible first | exact HB.out | apply below_alloc | apply pw_below_drewN | apply below_drew1 | refine below_set ?_ GE265.out | refine below_set ?_ GE266.out) | exact HB.out)))⟩; clear hw; clear HO272; clear HO278; clear BK265; clear BK266; clear HB; have HO272 := n0_; have HO278 := n1_; have BK265 := n2_; have BK266 := n3_; have HB := n4_; clear n0_ n1_ n2_ n3_ n4_))
     refine bodyPost_ret (results_cell_row rfl _ _ gb266 29 #[.int .i64 a0_0, .int .i64 a0_1, .int .i64 a0_2, .int .i64 a0_3, .int .i64 a0_4, .int .i64 a0_5, .slice Ao14 y270.length co14, .slice Ao16 y276.length co16, .bool a0_8] (0, 0) _ rfl (kb_ BK266.out) Try.underlying29 rfl (by kernel_rfl)) rfl ?_
     exact ⟨_, _, by first | rfl | (simp [errW_none, errW_some] <;> rfl) | (simp [*, errW_none, errW_some] <;> rfl), by (with_reducible repeat (first | apply Kd.R_alloc | apply Kd.R_drewN | apply Kd.R_drew)); exact HO272.out, by (with_reducible repeat (first | apply Kd.R_alloc | apply Kd.R_drewN | apply Kd.R_drew)); exact HO278.out, by repeat (first | (with_reducible first | exact HB.out | apply below_alloc | apply pw_below_drewN | apply below_drew1 | refine below_set ?_ GE265.out | refine below_set ?_ GE266.out) | exact HB.out)⟩
   · rw [if_neg c3] at H
     exact absurd H (by simp)
 · rw [if_neg c2] at H
   exact absurd H (by simp)
end Go.Proofs.Ytnjeeedndnfglaa.X
end
section
namespace Go.Proofs.Ytnjeeedndnfglaa.X
open Go.RowKit Go.Proofs.YtnjeeedndnfglaaW.PrintWords Go.Proofs.YtnjeeedndnfglaaW.PrintLast Go.Proofs.YtnjeeedndnfglaaW.PrintMore
attribute [local go_sem] max2_int min2_int max_two min_two max_three min_three max_four min_four   -- for this text's walks alone
set_option linter.unusedVariables false
set_option linter.unusedSimpArgs false
attribute [local go_sem high] eqA23 eqA25 eqA38 eqA40
/-! ### althingref05_Same: function 11 -/
mutual
def althingref05_Same.j0 : Nat → Bool → Int → Int → Int → Int → Int → Int → List (S38) → List (S40) → Bool → Int → Int → Int → Int → Int → Int → List (S38) → List (S40) → Bool → Option (Bool)
 | 0, _, _, _, _, _, _, _, _, _, _, _, _, _, _, _, _, _, _, _ => none
 | k + 1, x57, x280000, x280001, x280002, x280003, x280004, x280005, x280006, x280007, x280008, x281000, x281001, x281002, x281003, x281004, x281005, x281006, x281007, x281008 => if x57 = true then (some false) else (althingref05_Same.l0 k 0 x280000 x280001 x280002 x280003 x280004 x280005 x280006 x280007 x280008 x281000 x281001 x281002 x281003 x281004 x281005 x281006 x281007 x281008)
def althingref05_Same.l0 : Nat → Int → Int → Int → Int → Int → Int → Int → List (S38) → List (S40) → Bool → Int → Int → Int → Int → Int → Int → List (S38) → List (S40) → Bool → Option (Bool)
 | 0, _, _, _, _, _, _, _, _, _, _, _, _, _, _, _, _, _, _, _ => none
 | k + 1, x5, x280000, x280001, x280002, x280003, x280004, x280005, x280006, x280007, x280008, x281000, x281001, x281002, x281003, x281004, x281005, x281006, x281007, x281008 => if x5 < (x280006.length : Int) then (if 0 ≤ x5 then (if x5 < (x281006.length : Int) then (if (!((((rd_T38 x280006 x5).f0).toList) == (((rd_T38 x281006 x5).f0).toList)) || ((!(((rd_T38 x280006 x5).f1.f0) == ((rd_T38 x281006 x5).f1.f0)) || (!(((rd_T38 x280006 x5).f1.f1) == ((rd_T38 x281006 x5).f1.f1)))))) = true then (some false) else (althingref05_Same.l0 k (wrap64 (x5 + 1)) x280000 x280001 x280002 x280003 x280004 x280005 x280006 x280007 x280008 x281000 x281001 x281002 x281003 x281004 x281005 x281006 x281007 x281008)) else (none)) else (none)) else (althingref05_Same.l1 k 0 x280000 x280001 x280002 x280003 x280004 x280005 x280006 x280007 x280008 x281000 x281001 x281002 x281003 x281004 x281005 x281006 x281007 x281008)
def althingref05_Same.l1 : Nat → Int → Int → Int → Int → Int → Int → Int → List (S38) → List (S40) → Bool → Int → Int → Int → Int → Int → Int → List (S38) → List (S40) → Bool → Option (Bool)
 | 0, _, _, _, _, _, _, _, _, _, _, _, _, _, _, _, _, _, _, _ => none
 | k + 1, x6, x280000, x280001, x280002, x280003, x280004, x280005, x280006, x280007, x280008, x281000, x281001, x281002, x281003, x281004, x281005, x281006, x281007, x281008 => if x6 < (x280007.length : Int) then (if 0 ≤ x6 then (if x6 < (x281007.length : Int) then (if (!((((rd_T40 x280007 x6).f0).toList) == (((rd_T40 x281007 x6).f0).toList)) || (!((((rd_T40 x280007 x6).f1).toList) == (((rd_T40 x281007 x6).f1).toList)))) = true then (some false) else (althingref05_Same.l1 k (wrap64 (x6 + 1)) x280000 x280001 x280002 x280003 x280004 x280005 x280006 x280007 x280008 x281000 x281001 x281002 x281003 x281004 x281005 x281006 x281007 x281008)) else (none)) else (none)) else (some true)
end
def althingref05_Same.f (k : Nat) (a0_0 : Int) (a0_1 : Int) (a0_2 : Int) (a0_3 : Int) (a0_4 : Int) (a0_5 : Int) (l0_6 : List (S38)) (l0_7 : List (S40)) (a0_8 : Bool) (a1_0 : Int) (a1_1 : Int) (a1_2 : Int) (a1_3 : Int) (a1_4 : Int) (a1_5 : Int) (l1_6 : List (S38)) (l1_7 : List (S40)) (a1_8 : Bool) : Option (Bool) := if a0_0 = a1_0 then (if (!(a0_1 == a1_1) || (!(a0_2 == a1_2))) = true then (althingref05_Same.j0 k true a0_0 a0_1 a0_2 a0_3 a0_4 a0_5 l0_6 l0_7 a0_8 a1_0 a1_1 a1_2 a1_3 a1_4 a1_5 l1_6 l1_7 a1_8) else (if (!(a0_3 == a1_3) || (!(a0_4 == a1_4))) = true then (althingref05_Same.j0 k true a0_0 a0_1 a0_2 a0_3 a0_4 a0_5 l0_6 l0_7 a0_8 a1_0 a1_1 a1_2 a1_3 a1_4 a1_5 l1_6 l1_7 a1_8) else (if a0_5 = a1_5 then (if (a0_8 != a1_8) = true then (althingref05_Same.j0 k true a0_0 a0_1 a0_2 a0_3 a0_4 a0_5 l0_6 l0_7 a0_8 a1_0 a1_1 a1_2 a1_3 a1_4 a1_5 l1_6 l1_7 a1_8) else (if (l0_6.length : Int) = (l1_6.length : Int) then (althingref05_Same.j0 k ((l0_7.length : Int) != (l1_7.length : Int)) a0_0 a0_1 a0_2 a0_3 a0_4 a0_5 l0_6 l0_7 a0_8 a1_0 a1_1 a1_2 a1_3 a1_4 a1_5 l1_6 l1_7 a1_8) else (althingref05_Same.j0 k true a0_0 a0_1 a0_2 a0_3 a0_4 a0_5 l0_6 l0_7 a0_8 a1_0 a1_1 a1_2 a1_3 a1_4 a1_5 l1_6 l1_7 a1_8))) else (althingref05_Same.j0 k true a0_0 a0_1 a0_2 a0_3 a0_4 a0_5 l0_6 l0_7 a0_8 a1_0 a1_1 a1_2 a1_3 a1_4 a1_5 l1_6 l1_7 a1_8)))) else (althingref05_Same.j0 k true a0_0 a0_1 a0_2 a0_3 a0_4 a0_5 l0_6 l0_7 a0_8 a1_0 a1_1 a1_2 a1_3 a1_4 a1_5 l1_6 l1_7 a1_8)
set_option maxHeartbeats 8000000 in
set_option maxRecDepth 100000 in
theorem althingref05_Same.calls (k : Nat) (a0_0 : Int) (a0_1 : Int) (a0_2 : Int) (a0_3 : Int) (a0_4 : Int) (a0_5 : Int) (A0_6 : Option Addr) (c0_6 : Nat) (l0_6 : List (S38)) (A0_7 : Option Addr) (c0_7 : Nat) (l0_7 : List (S40)) (a0_8 : Bool) (a1_0 : Int) (a1_1 : Int) (a1_2 : Int) (a1_3 : Int) (a1_4 : Int) (a1_5 : Int) (A1_6 : Option Addr) (c1_6 : Nat) (l1_6 : List (S38)) (A1_7 : Option Addr) (c1_7 : Nat) (l1_7 : List (S40)) (a1_8 : Bool) (r : Bool) (w : World) (hr0_6 : Kd.C k38 w A0_6 l0_6.length l0_6) (hc0_6 : l0_6.length ≤ c0_6) (hr0_7 : Kd.C k40 w A0_7 l0_7.length l0_7) (hc0_7 : l0_7.length ≤ c0_7) (hr1_6 : Kd.C k38 w A1_6 l1_6.length l1_6) (hc1_6 : l1_6.length ≤ c1_6) (hr1_7 : Kd.C k40 w A1_7 l1_7.length l1_7) (hc1_7 : l1_7.length ≤ c1_7) (h : althingref05_Same.f k a0_0 a0_1 a0_2 a0_3 a0_4 a0_5 l0_6 l0_7 a0_8 a1_0 a1_1 a1_2 a1_3 a1_4 a1_5 l1_6 l1_7 a1_8 = some r) :
 Calls Try.prog 11 #[.agg #[.int .i64 a0_0, .int .i64 a0_1, .int .i64 a0_2, .int .i64 a0_3, .int .i64 a0_4, .int .i64 a0_5, .slice A0_6 l0_6.length c0_6, .slice A0_7 l0_7.length c0_7, .bool a0_8], .agg #[.int .i64 a1_0, .int .i64 a1_1, .int .i64 a1_2, .int .i64 a1_3, .int .i64 a1_4, .int .i64 a1_5, .slice A1_6 l1_6.length c1_6, .slice A1_7 l1_7.length c1_7, .bool a1_8]] w fun e w' => e = .returned (.bool r) ∧ Below w.heap.size w w' := by
 have hu29 := Try.underlying29
 have hu23 := Try.underlying23
 have hu25 := Try.underlying25
 have hu38 := Try.underlying38
 have hu40 := Try.underlying40
 have HR0_6 := Aside0.mk hr0_6
 have HC0_6 := Aside0.mk hc0_6
 clear hr0_6 hc0_6
 have HR0_7 := Aside0.mk hr0_7
 have HC0_7 := Aside0.mk hc0_7
 clear hr0_7 hc0_7
 have HR1_6 := Aside0.mk hr1_6
 have HC1_6 := Aside0.mk hc1_6
 clear hr1_6 hc1_6
 have HR1_7 := Aside0.mk hr1_7
 have HC1_7 := Aside0.mk hc1_7
 clear hr1_7 hc1_7
 have HB := Aside0.mk (Below.refl w.heap.size w)
 have H : (if a0_0 = a1_0 then (if (!(a0_1 == a1_1) || (!(a0_2 == a1_2))) = true then (althingref05_Same.j0 k true a0_0 a0_1 a0_2 a0_3 a0_4 a0_5 l0_6 l0_7 a0_8 a1_0 a1_1 a1_2 a1_3 a1_4 a1_5 l1_6 l1_7 a1_8) else (if (!(a0_3 == a1_3) || (!(a0_4 == a1_4))) = true then (althingref05_Same.j0 k true a0_0 a0_1 a0_2 a0_3 a0_4 a0_5 l0_6 l0_7 a0_8 a1_0 a1_1 a1_2 a1_3 a1_4 a1_5 l1_6 l1_7 a1_8) else (if a0_5 = a1_5 then (if (a0_8 != a1_8) = true then (althingref05_Same.j0 k true a0_0 a0_1 a0_2 a0_3 a0_4 a0_5 l0_6 l0_7 a0_8 a1_0 a1_1 a1_2 a1_3 a1_4 a1_5 l1_6 l1_7 a1_8) else (if (l0_6.length : Int) = (l1_6.length : Int) then (althingref05_Same.j0 k ((l0_7.length : Int) != (l1_7.length : Int)) a0_0 a0_1 a0_2 a0_3 a0_4 a0_5 l0_6 l0_7 a0_8 a1_0 a1_1 a1_2 a1_3 a1_4 a1_5 l1_6 l1_7 a1_8) else (althingref05_Same.j0 k true a0_0 a0_1 a0_2 a0_3 a0_4 a0_5 l0_6 l0_7 a0_8 a1_0 a1_1 a1_2 a1_3 a1_4 a1_5 l1_6 l1_7 a1_8))) else (althingref05_Same.j0 k true a0_0 a0_1 a0_2 a0_3 a0_4 a0_5 l0_6 l0_7 a0_8 a1_0 a1_1 a1_2 a1_3 a1_4 a1_5 l1_6 l1_7 a1_8)))) else (althingref05_Same.j0 k true a0_0 a0_1 a0_2 a0_3 a0_4 a0_5 l0_6 l0_7 a0_8 a1_0 a1_1 a1_2 a1_3 a1_4 a1_5 l1_6 l1_7 a1_8)) = some r := h
 clear h
 have HC3 := Aside0.mk H
 clear H
 go_enter Try.func11, Try.ntmps11
 have hq0 := True.intro
 repeat ((first | clear hq0 | go_quiet (fail)); try go_upto_region 1 with (first | ((with_reducible refine gate_dst (N := 2) rfl ?_); (try (refine gate_guard (by rfl) ?_; dsimp only)); refine box_event ?hg (N := 2) ?hd (cs := #[.int .i64 a0_0, .int .i64 a0_1, .int .i64 a0_2, .int .i64 a0_3, .int .i64 a0_4, .int .i64 a0_5, .slice A0_6 l0_6.length c0_6, .slice A0_7 l0_7.length c0_7, .bool a0_8]) (t := 29) ?hr ?_; (case hd => rfl); (case hg => rfl); (case hr => first | (go_simp; done) | (go_simp; rfl)); intro gb279 hg w4 hbox hb; have n0_ := Aside0.mk (below_step lb_ hb); have n1_ := Aside0.mk (hbox); have n2_ := Aside0.mk ((by rw [hg]; exact (below_size lb_) : w.heap.size ≤ gb279)); have n3_ := Aside0.mk ((by rw [hg]; exact (below_size lb_) : w.heap.size ≤ gb279)); clear HB; have HB := n0_; have BK279 := n1_; have GW279 := n2_; have GE279 := n3_; clear n0_ n1_ n2_ n3_; clear hb hbox hg) | ((with_reducible refine gate_dst (N := 3) rfl ?_); (try (refine gate_guard (by rfl) ?_; dsimp only)); refine box_event ?hg (N := 3) ?hd (cs := #[.int .i64 a1_0, .int .i64 a1_1, .int .i64 a1_2, .int .i64 a1_3, .int .i64 a1_4, .int .i64 a1_5, .slice A1_6 l1_6.length c1_6, .slice A1_7 l1_7.length c1_7, .bool a1_8]) (t := 29) ?hr ?_; (case hd => rfl); (case hg => rfl); (case hr => first | (go_simp; done) | (go_simp; rfl)); intro gb280 hg w5 hbox hb; have n0_ := Aside0.mk (blk_below (kb_ BK279.out) hb); have n1_ := Aside0.mk (below_step (by repeat (first | (with_reducible first | exact HB.out | apply below_alloc | apply pw_below_drewN | apply below_drew1 | refine below_set ?_ GE279.out) | exact HB.out)) hb); have n2_ := Aside0.mk (hbox); have n3_ := Aside0.mk ((by rw [hg]; exact (below_size (by repeat (first | (with_reducible first | exact HB.out | apply below_alloc | apply pw_below_drewN | apply below_drew1 | refine below_set ?_ GE279.out) | exact HB.out))) : w.heap.size ≤ gb280)); have n4_ := Aside0.mk ((by rw [hg]; exact (below_size (by repeat (first | (with_reducible first | exact HB.out | apply below_alloc | apply pw_below_drewN | apply below_drew1 | refine below_set ?_ GE279.out) | exact HB.out))) : w.heap.size ≤ gb280)); have n5_ := Aside0.mk ((by rw [hg]; exact Nat.ne_of_lt (blk_lt (kb_ BK279.out)) : gb279 ≠ gb280)); have n6_ := Aside0.mk ((by rw [hg]; exact Nat.ne_of_gt (blk_lt (kb_ BK279.out)) : gb280 ≠ gb279)); clear BK279; clear HB; have BK279 := n0_; have HB := n1_; have BK280 := n2_; have GW280 := n3_; have GE280 := n4_; have NB279_280 := n5_; have NB280_279 := n6_; clear n0_ n1_ n2_ n3_ n4_ n5_ n6_; clear hb hbox hg)))
 (try simp only [Act.put, List.setIfInBounds_toArray, List.set_cons_zero, List.set_cons_succ])
 go_cut [57] (fun v57 wc => ∃ (kq : Nat) (x57_2 : Bool), v57 = .bool x57_2 ∧ Aside0 (althingref05_Same.j0 kq x57_2 a0_0 a0_1 a0_2 a0_3 a0_4 a0_5 l0_6 l0_7 a0_8 a1_0 a1_1 a1_2 a1_3 a1_4 a1_5 l1_6 l1_7 a1_8 = some r) ∧ Aside0 (kq ≤ k) ∧ Aside0 (wc.heap[gb279]? = some (.cells #[.int .i64 a0_0, .int .i64 a0_1, .int .i64 a0_2, .int .i64 a0_3, .int .i64 a0_4, .int .i64 a0_5, (.slice A0_6 l0_6.length c0_6), (.slice A0_7 l0_7.length c0_7), .bool a0_8] 29 (0, 0))) ∧ Aside0 (wc.heap[gb280]? = some (.cells #[.int .i64 a1_0, .int .i64 a1_1, .int .i64 a1_2, .int .i64 a1_3, .int .i64 a1_4, .int .i64 a1_5, (.slice A1_6 l1_6.length c1_6), (.slice A1_7 l1_7.length c1_7), .bool a1_8] 29 (0, 0))) ∧ Aside0 (Below w.heap.size w wc))
 case first =>
  have H := HC3.out
  clear HC3
  by_cases c6 : a0_0 = a1_0
  · rw [if_pos c6] at H
    have c6b0 : (a0_0 == a1_0) = true := beq_iff_eq.mpr c6
    have c6b1 : (a0_0 != a1_0) = false := bne_eq_false_iff_eq.mpr c6
    clear c6
    (first | rw [c6b0] | (simp only [i64_w, i32_w]; rw [c6b0]) | skip)
    by_cases c7 : (!(a0_1 == a1_1) || (!(a0_2 == a1_2))) = true
    · rw [if_pos c7] at H
      have c7b0 : (!(a0_1 == a1_1) || (!(a0_2 == a1_2))) = true := c7
      clear c7
      have H' := Aside0.mk H
      clear H
      have hnb8 := NB279_280.out
      have hnc8 := NB280_279.out
      refine blk9_ BK279.out fun hcz9_0 hcz9_1 hcz9_2 hcz9_3 hcz9_4 hcz9_5 hcz9_6 hcz9_7 hcz9_8 hfz9_0 hfz9_1 hfz9_2 hfz9_3 hfz9_4 hfz9_5 hfz9_6 hfz9_7 hfz9_8 => ?_
      refine blk9_ BK280.out fun hcz10_0 hcz10_1 hcz10_2 hcz10_3 hcz10_4 hcz10_5 hcz10_6 hcz10_7 hcz10_8 hfz10_0 hfz10_1 hfz10_2 hfz10_3 hfz10_4 hfz10_5 hfz10_6 hfz10_7 hfz10_8 => ?_
      go_wp2
      repeat (go_quiet (fail); try go_wp2)
      go_meet
      case rel => exact ⟨_, (true), (by first | rfl | (simp; done) | (simp [*]; done)), H', ⟨by first | omega | exact Nat.le_refl _⟩, ⟨by (with_reducible repeat (first | refine blk_drewN ?_ _ | refine blk_drew ?_ | refine blk_alloc ?_ _)); exact BK279.out⟩, ⟨by (with_reducible repeat (first | refine blk_drewN ?_ _ | refine blk_drew ?_ | refine blk_alloc ?_ _)); exact BK280.out⟩, ⟨by repeat (first | (with_reducible first | exact HB.out | apply below_alloc | apply pw_below_drewN | apply below_drew1 | refine below_set ?_ GE279.out | refine below_set ?_ GE280.out) | exact HB.out)⟩⟩
    · rw [if_neg c7] at H
      have c7b0 : (!(a0_1 == a1_1) || (!(a0_2 == a1_2))) = false := by simpa using c7
      clear c7
      by_cases c11 : (!(a0_3 == a1_3) || (!(a0_4 == a1_4))) = true
      · rw [if_pos c11] at H
        have c11b0 : (!(a0_3 == a1_3) || (!(a0_4 == a1_4))) = true := c11
        clear c11
        have H' := Aside0.mk H
        clear H
        have hnb12 := NB279_280.out
        have hnc12 := NB280_279.out
        refine blk9_ BK279.out fun hcz13_0 hcz13_1 hcz13_2 hcz13_3 hcz13_4 hcz13_5 hcz13_6 hcz13_7 hcz13_8 hfz13_0 hfz13_1 hfz13_2 hfz13_3 hfz13_4 hfz13_5 hfz13_6 hfz13_7 hfz13_8 => ?_
        refine blk9_ BK280.out fun hcz14_0 hcz14_1 hcz14_2 hcz14_3 hcz14_4 hcz14_5 hcz14_6 hcz14_7 hcz14_8 hfz14_0 hfz14_1 hfz14_2 hfz14_3 hfz14_4 hfz14_5 hfz14_6 hfz14_7 hfz14_8 => ?_
        go_wp2
        repeat (go_quiet (fail); try go_wp2)
        go_meet
        case rel => exact ⟨_, (true), (by first | rfl | (simp; done) | (simp [*]; done)), H', ⟨by first | omega | exact Nat.le_refl _⟩, ⟨by (with_reducible repeat (first | refine blk_drewN ?_ _ | refine blk_drew ?_ | refine blk_alloc ?_ _)); exact BK279.out⟩, ⟨by (with_reducible repeat (first | refine blk_drewN ?_ _ | refine blk_drew ?_ | refine blk_alloc ?_ _)); exact BK280.out⟩, ⟨by repeat (first | (with_reducible first | exact HB.out | apply below_alloc | apply pw_below_drewN | apply below_drew1 | refine below_set ?_ GE279.out | refine below_set ?_ GE280.out) | exact HB.out)⟩⟩
      · rw [if_neg c11] at H
        have c11b0 : (!(a0_3 == a1_3) || (!(a0_4 == a1_4))) = false := by simpa using c11
        clear c11
        by_cases c15 : a0_5 = a1_5
        · rw [if_pos c15] at H
          have c15b0 : (a0_5 == a1_5) = true := beq_iff_eq.mpr c15
          have c15b1 : (a0_5 != a1_5) = false := bne_eq_false_iff_eq.mpr c15
          clear c15
          by_cases c16 : (a0_8 != a1_8) = true
          · rw [if_pos c16] at H
            have c16b0 : (a0_8 != a1_8) = true := c16
            (try (have c16b1 : decide (a0_8 = a1_8) = false := by simpa using c16))
            (try (have c16b2 : (a0_8 == a1_8) = false := by simpa using c16))
            (try (have c16b3 : ¬ (a0_8 = a1_8) := by simpa using c16))
            clear c16
            have H' := Aside0.mk H
            clear H
            have hnb17 := NB279_280.out
            have hnc17 := NB280_279.out
            refine blk9_ BK279.out fun hcz18_0 hcz18_1 hcz18_2 hcz18_3 hcz18_4 hcz18_5 hcz18_6 hcz18_7 hcz18_8 hfz18_0 hfz18_1 hfz18_2 hfz18_3 hfz18_4 hfz18_5 hfz18_6 hfz18_7 hfz18_8 => ?_
            refine blk9_ BK280.out fun hcz19_0 hcz19_1 hcz19_2 hcz19_3 hcz19_4 hcz19_5 hcz19_6 hcz19_7 hcz19_8 hfz19_0 hfz19_1 hfz19_2 hfz19_3 hfz19_4 hfz19_5 hfz19_6 hfz19_7 hfz19_8 => ?_
            go_wp2
            repeat (go_quiet (fail); try go_wp2)
            go_meet
            case rel => exact ⟨_, (true), (by first | rfl | (simp; done) | (simp [*]; done)), H', ⟨by first | omega | exact Nat.le_refl _⟩, ⟨by (with_reducible repeat (first | refine blk_drewN ?_ _ | refine blk_drew ?_ | refine blk_alloc ?_ _)); exact BK279.out⟩, ⟨by (with_reducible repeat (first | refine blk_drewN ?_ _ | refine blk_drew ?_ | refine blk_alloc ?_ _)); exact BK280.out⟩, ⟨by repeat (first | (with_reducible first | exact HB.out | apply below_alloc | apply pw_below_drewN | apply below_drew1 | refine below_set ?_ GE279.out | refine below_set ?_ GE280.out) | exact HB.out)⟩⟩
          · rw [if_neg c16] at H
            have c16b0 : (a0_8 != a1_8) = false := by simpa using c16
            (try (have c16b1 : decide (a0_8 = a1_8) = true := by simpa using c16))
            (try (have c16b2 : (a0_8 == a1_8) = true := by simpa using c16))
            clear c16
            by_cases c20 : (l0_6.length : Int) = (l1_6.length : Int)
            · rw [if_pos c20] at H
              have c20b0 : ((l0_6.length : Int) == (l1_6.length : Int)) = true := beq_iff_eq.mpr c20
              have c20b1 : ((l0_6.length : Int) != (l1_6.length : Int)) = false := bne_eq_false_iff_eq.mpr c20
              have c20b2 : (l0_6.length == l1_6.length) = true := by first | simpa using c20 | (simp at c20 ⊢; omega)
              clear c20
              have H' := Aside0.mk H
              clear H
              have hnb21 := NB279_280.out
              have hnc21 := NB280_279.out
              refine blk9_ BK279.out fun hcz22_0 hcz22_1 hcz22_2 hcz22_3 hcz22_4 hcz22_5 hcz22_6 hcz22_7 hcz22_8 hfz22_0 hfz22_1 hfz22_2 hfz22_3 hfz22_4 hfz22_5 hfz22_6 hfz22_7 hfz22_8 => ?_
              refine blk9_ BK280.out fun hcz23_0 hcz23_1 hcz23_2 hcz23_3 hcz23_4 hcz23_5 hcz23_6 hcz23_7 hcz23_8 hfz23_0 hfz23_1 hfz23_2 hfz23_3 hfz23_4 hfz23_5 hfz23_6 hfz23_7 hfz23_8 => ?_
              go_wp2
              repeat (go_quiet (fail); try go_wp2)
              go_meet
              case rel => exact ⟨_, (((l0_7.length : Int) != (l1_7.length : Int))), (by first | rfl | (simp; done) | (simp [*]; done)), H', ⟨by first | omega | exact Nat.le_refl _⟩, ⟨by (with_reducible repeat (first | refine blk_drewN ?_ _ | refine blk_drew ?_ | refine blk_alloc ?_ _)); exact BK279.out⟩, ⟨by (with_reducible repeat (first | refine blk_drewN ?_ _ | refine blk_drew ?_ | refine blk_alloc ?_ _)); exact BK280.out⟩, ⟨by repeat (first | (with_reducible first | exact HB.out | apply below_alloc | apply pw_below_drewN | apply below_drew1 | refine below_set ?_ GE279.out | refine below_set ?_ GE280.out) | exact HB.out)⟩⟩
            · rw [if_neg c20] at H
              have c20b0 : ((l0_6.length : Int) == (l1_6.length : Int)) = false := beq_eq_false_iff_ne.mpr c20
              have c20b1 : ((l0_6.length : Int) != (l1_6.length : Int)) = true := bne_iff_ne.mpr c20
              have c20b2 : (l0_6.length == l1_6.length) = false := by first | simpa using c20 | (simp at c20 ⊢; omega)
              have H' := Aside0.mk H
              clear H
              have hnb24 := NB279_280.out
              have hnc24 := NB280_279.out
              refine blk9_ BK279.out fun hcz25_0 hcz25_1 hcz25_2 hcz25_3 hcz25_4 hcz25_5 hcz25_6 hcz25_7 hcz25_8 hfz25_0 hfz25_1 hfz25_2 hfz25_3 hfz25_4 hfz25_5 hfz25_6 hfz25_7 hfz25_8 => ?_
              refine blk9_ BK280.out fun hcz26_0 hcz26_1 hcz26_2 hcz26_3 hcz26_4 hcz26_5 hcz26_6 hcz26_7 hcz26_8 hfz26_0 hfz26_1 hfz26_2 hfz26_3 hfz26_4 hfz26_5 hfz26_6 hfz26_7 hfz26_8 => ?_
              go_wp2
              repeat (go_quiet (fail); try go_wp2)
              go_meet
              case rel => exact ⟨_, (true), (by first | rfl | (simp; done) | (simp [*]; done)), H', ⟨by first | omega | exact Nat.le_refl _⟩, ⟨by (with_reducible repeat (first | refine blk_drewN ?_ _ | refine blk_drew ?_ | refine blk_alloc ?_ _)); exact BK279.out⟩, ⟨by (with_reducible repeat (first | refine blk_drewN ?_ _ | refine blk_drew ?_ | refine blk_alloc ?_ _)); exact BK280.out⟩, ⟨by repeat (first | (with_reducible first | exact HB.out | apply below_alloc | apply pw_below_drewN | apply below_drew1 | refine below_set ?_ GE279.out | refine below_set ?_ GE280.out) | exact HB.out)⟩⟩
        · rw [if_neg c15] at H
          have c15b0 : (a0_5 == a1_5) = false := beq_eq_false_iff_ne.mpr c15
          have c15b1 : (a0_5 != a1_5) = true := bne_iff_ne.mpr c15
          have H' := Aside0.mk H
          clear H
          have hnb27 := NB279_280.out
          have hnc27 := NB280_279.out
          refine blk9_ BK279.out fun hcz28_0 hcz28_1 hcz28_2 hcz28_3 hcz28_4 hcz28_5 hcz28_6 hcz28_7 hcz28_8 hfz28_0 hfz28_1 hfz28_2 hfz28_3 hfz28_4 hfz28_5 hfz28_6 hfz28_7 hfz28_8 => ?_
          refine blk9_ BK280.out fun hcz29_0 hcz29_1 hcz29_2 hcz29_3 hcz29_4 hcz29_5 hcz29_6 hcz29_7 hcz29_8 hfz29_0 hfz29_1 hfz29_2 hfz29_3 hfz29_4 hfz29_5 hfz29_6 hfz29_7 hfz29_8 => ?_
          go_wp2
          repeat (go_quiet (fail); try go_wp2)
          go_meet
          case rel => exact ⟨_, (true), (by first | rfl | (simp; done) | (simp [*]; done)), H', ⟨by first | omega | exact Nat.le_refl _⟩, ⟨by (with_reducible repeat (first | refine blk_drewN ?_ _ | refine blk_drew ?_ | refine blk_alloc ?_ _)); exact BK279.out⟩, ⟨by (with_reducible repeat (first | refine blk_drewN ?_ _ | refine blk_drew ?_ | refine blk_alloc ?_ _)); exact BK280.out⟩, ⟨by repeat (first | (with_reducible first | exact HB.out | apply below_alloc | apply pw_below_drewN | apply below_drew1 | refine below_set ?_ GE279.out | refine below_set ?_ GE280.out) | exact HB.out)⟩⟩
  · rw [if_neg c6] at H
    have c6b0 : (a0_0 == a1_0) = false := beq_eq_false_iff_ne.mpr c6
    have c6b1 : (a0_0 != a1_0) = true := bne_iff_ne.mpr c6
    (first | rw [c6b0] | (simp only [i64_w, i32_w]; rw [c6b0]) | skip)
    have H' := Aside0.mk H
    clear H
    have hnb30 := NB279_280.out
    have hnc30 := NB280_279.out
    refine blk9_ BK279.out fun hcz31_0 hcz31_1 hcz31_2 hcz31_3 hcz31_4 hcz31_5 hcz31_6 hcz31_7 hcz31_8 hfz31_0 hfz31_1 hfz31_2 hfz31_3 hfz31_4 hfz31_5 hfz31_6 hfz31_7 hfz31_8 => ?_
    refine blk9_ BK280.out fun hcz32_0 hcz32_1 hcz32_2 hcz32_3 hcz32_4 hcz32_5 hcz32_6 hcz32_7 hcz32_8 hfz32_0 hfz32_1 hfz32_2 hfz32_3 hfz32_4 hfz32_5 hfz32_6 hfz32_7 hfz32_8 => ?_
    go_wp2
    repeat (go_quiet (fail); try go_wp2)
    go_meet
    case rel => exact ⟨_, (true), (by first | rfl | (simp; done) | (simp [*]; done)), H', ⟨by first | omega | exact Nat.le_refl _⟩, ⟨by (with_reducible repeat (first | refine blk_drewN ?_ _ | refine blk_drew ?_ | refine blk_alloc ?_ _)); exact BK279.out⟩, ⟨by (with_reducible repeat (first | refine blk_drewN ?_ _ | refine blk_drew ?_ | refine blk_alloc ?_ _)); exact BK280.out⟩, ⟨by repeat (first | (with_reducible first | exact HB.out | apply below_alloc | apply pw_below_drewN | apply below_drew1 | refine below_set ?_ GE279.out | refine below_set ?_ GE280.out) | exact HB.out)⟩⟩
 case rest =>
  clear HC3
  try clear c1
  try clear c2
  try clear p2
  try clear c3
  try clear c6
  try clear c6b0
  try clear c6b1
  try clear c7
  try clear c7b0
  try clear c8
  try clear c11
  try clear c11b0
  try clear c12
  try clear c15
  try clear c15b0
  try clear c15b1
  try clear c16
  try clear c16b0
  try clear c16b1
  try clear c16b2
  try clear c17
  try clear c20
  try clear c20b0
  try clear c20b1
  try clear c20b2
  try clear c21
  try clear c24
  try clear c27
  try clear c30
  try clear hcz10_0 hcz10_1 hcz10_2 hcz10_3 hcz10_4 hcz10_5 hcz10_6 hcz10_7 hcz10_8
  try clear hcz13_0 hcz13_1 hcz13_2 hcz13_3 hcz13_4 hcz13_5 hcz13_6 hcz13_7 hcz13_8
  try clear hcz14_0 hcz14_1 hcz14_2 hcz14_3 hcz14_4 hcz14_5 hcz14_6 hcz14_7 hcz14_8
  try clear hcz18_0 hcz18_1 hcz18_2 hcz18_3 hcz18_4 hcz18_5 hcz18_6 hcz18_7 hcz18_8
  try clear hcz19_0 hcz19_1 hcz19_2 hcz19_3 hcz19_4 hcz19_5 hcz19_6 hcz19_7 hcz19_8
  try clear hcz22_0 hcz22_1 hcz22_2 hcz22_3 hcz22_4 hcz22_5 hcz22_6 hcz22_7 hcz22_8
  try clear hcz23_0 hcz23_1 hcz23_2 hcz23_3 hcz23_4 hcz23_5 hcz23_6 hcz23_7 hcz23_8
  try clear hcz25_0 hcz25_1 hcz25_2 hcz25_3 hcz25_4 hcz25_5 hcz25_6 hcz25_7 hcz25_8
  try clear hcz26_0 hcz26_1 hcz26_2 hcz26_3 hcz26_4 hcz26_5 hcz26_6 hcz26_7 hcz26_8
  try clear hcz28_0 hcz28_1 hcz28_2 hcz28_3 hcz28_4 hcz28_5 hcz28_6 hcz28_7 hcz28_8
  try clear hcz29_0 hcz29_1 hcz29_2 hcz29_3 hcz29_4 hcz29_5 hcz29_6 hcz29_7 hcz29_8
  try clear hcz31_0 hcz31_1 hcz31_2 hcz31_3 hcz31_4 hcz31_5 hcz31_6 hcz31_7 hcz31_8
  try clear hcz32_0 hcz32_1 hcz32_2 hcz32_3 hcz32_4 hcz32_5 hcz32_6 hcz32_7 hcz32_8
  try clear hcz9_0 hcz9_1 hcz9_2 hcz9_3 hcz9_4 hcz9_5 hcz9_6 hcz9_7 hcz9_8
  try clear hfz10_0 hfz10_1 hfz10_2 hfz10_3 hfz10_4 hfz10_5 hfz10_6 hfz10_7 hfz10_8
  try clear hfz13_0 hfz13_1 hfz13_2 hfz13_3 hfz13_4 hfz13_5 hfz13_6 hfz13_7 hfz13_8
  try clear hfz14_0 hfz14_1 hfz14_2 hfz14_3 hfz14_4 hfz14_5 hfz14_6 hfz14_7 hfz14_8
  try clear hfz18_0 hfz18_1 hfz18_2 hfz18_3 hfz18_4 hfz18_5 hfz18_6 hfz18_7 hfz18_8
  try clear hfz19_0 hfz19_1 hfz19_2 hfz19_3 hfz19_4 hfz19_5 hfz19_6 hfz19_7 hfz19_8
  try clear hfz22_0 hfz22_1 hfz22_2 hfz22_3 hfz22_4 hfz22_5 hfz22_6 hfz22_7 hfz22_8
  try clear hfz23_0 hfz23_1 hfz23_2 hfz23_3 hfz23_4 hfz23_5 hfz23_6 hfz23_7 hfz23_8
  try clear hfz25_0 hfz25_1 hfz25_2 hfz25_3 hfz25_4 hfz25_5 hfz25_6 hfz25_7 hfz25_8
  try clear hfz26_0 hfz26_1 hfz26_2 hfz26_3 hfz26_4 hfz26_5 hfz26_6 hfz26_7 hfz26_8
  try clear hfz28_0 hfz28_1 hfz28_2 hfz28_3 hfz28_4 hfz28_5 hfz28_6 hfz28_7 hfz28_8
  try clear hfz29_0 hfz29_1 hfz29_2 hfz29_3 hfz29_4 hfz29_5 hfz29_6 hfz29_7 hfz29_8
  try clear hfz31_0 hfz31_1 hfz31_2 hfz31_3 hfz31_4 hfz31_5 hfz31_6 hfz31_7 hfz31_8
  try clear hfz32_0 hfz32_1 hfz32_2 hfz32_3 hfz32_4 hfz32_5 hfz32_6 hfz32_7 hfz32_8
  try clear hfz9_0 hfz9_1 hfz9_2 hfz9_3 hfz9_4 hfz9_5 hfz9_6 hfz9_7 hfz9_8
  obtain ⟨kq, x57_2, rfl, HA, HJ2, BK279, BK280, HB⟩ := hcut
  cases kq with
  | zero => exact absurd HA.out (by simp [althingref05_Same.j0])
  | succ kj2 =>
   have H := HA.out
   clear HA
   simp only [althingref05_Same.j0] at H
   by_cases c33 : x57_2 = true
   · subst c33
     rw [if_pos rfl] at H
     obtain rfl := Option.some.inj H
     go_wp2
     repeat (go_quiet (fail); try go_wp2)
     go_ret
     exact ⟨by first | rfl | (simp [errW_none, errW_some] <;> rfl) | (simp [*, errW_none, errW_some] <;> rfl), by repeat (first | (with_reducible first | exact HB.out | apply below_alloc | apply pw_below_drewN | apply below_drew1 | refine below_set ?_ GE279.out | refine below_set ?_ GE280.out) | exact HB.out)⟩
   · replace c33 := Bool.eq_false_iff.mpr c33
     subst c33
     rw [if_neg (show ¬ (false = true) by decide)] at H
     have H' := Aside0.mk H
     clear H
     go_wp2
     repeat (go_quiet (fail); try go_wp2)
     go_loopg [5] kj2 (fun kq v5 w' => ∃ (x5_2 : Int), v5 = .int .i64 x5_2 ∧ Aside0 (althingref05_Same.l0 kq x5_2 a0_0 a0_1 a0_2 a0_3 a0_4 a0_5 l0_6 l0_7 a0_8 a1_0 a1_1 a1_2 a1_3 a1_4 a1_5 l1_6 l1_7 a1_8 = some r) ∧ Aside0 (kq ≤ kj2) ∧ Aside0 (w'.heap[gb279]? = some (.cells #[.int .i64 a0_0, .int .i64 a0_1, .int .i64 a0_2, .int .i64 a0_3, .int .i64 a0_4, .int .i64 a0_5, (.slice A0_6 l0_6.length c0_6), (.slice A0_7 l0_7.length c0_7), .bool a0_8] 29 (0, 0))) ∧ Aside0 (w'.heap[gb280]? = some (.cells #[.int .i64 a1_0, .int .i64 a1_1, .int .i64 a1_2, .int .i64 a1_3, .int .i64 a1_4, .int .i64 a1_5, (.slice A1_6 l1_6.length c1_6), (.slice A1_7 l1_7.length c1_7), .bool a1_8] 29 (0, 0))) ∧ Aside0 (Below w.heap.size w w'))
     case atStart => exact ⟨(0), (by first | rfl | (simp; done) | (simp [*]; done)), H', ⟨Nat.le_refl _⟩, ⟨by (with_reducible repeat (first | refine blk_drewN ?_ _ | refine blk_drew ?_ | refine blk_alloc ?_ _)); exact BK279.out⟩, ⟨by (with_reducible repeat (first | refine blk_drewN ?_ _ | refine blk_drew ?_ | refine blk_alloc ?_ _)); exact BK280.out⟩, ⟨by repeat (first | (with_reducible first | exact HB.out | apply below_alloc | apply pw_below_drewN | apply below_drew1 | refine below_set ?_ GE279.out | refine below_set ?_ GE280.out) | exact HB.out)⟩⟩
     case round =>
      clear H'
      try clear c1
      try clear c2
      try clear p2
      try clear c3
      try clear c6
      try clear c6b0
      try clear c6b1
      try clear c7
      try clear c7b0
      try clear c8
      try clear c11
      try clear c11b0
      try clear c12
      try clear c15
      try clear c15b0
      try clear c15b1
      try clear c16
      try clear c16b0
      try clear c16b1
      try clear c16b2
      try clear c17
      try clear c20
      try clear c20b0
      try clear c20b1
      try clear c20b2
      try clear c21
      try clear c24
      try clear c27
      try clear c30
      try clear c33
      try clear hcz10_0 hcz10_1 hcz10_2 hcz10_3 hcz10_4 hcz10_5 hcz10_6 hcz10_7 hcz10_8
      try clear hcz13_0 hcz13_1 hcz13_2 hcz13_3 hcz13_4 hcz13_5 hcz13_6 hcz13_7 hcz13_8
      try clear hcz14_0 hcz14_1 hcz14_2 hcz14_3 hcz14_4 hcz14_5 hcz14_6 hcz14_7 hcz14_8
      try clear hcz18_0 hcz18_1 hcz18_2 hcz18_3 hcz18_4 hcz18_5 hcz18_6 hcz18_7 hcz18_8
      try clear hcz19_0 hcz19_1 hcz19_2 hcz19_3 hcz19_4 hcz19_5 hcz19_6 hcz19_7 hcz19_8
      try clear hcz22_0 hcz22_1 hcz22_2 hcz22_3 hcz22_4 hcz22_5 hcz22_6 hcz22_7 hcz22_8
      try clear hcz23_0 hcz23_1 hcz23_2 hcz23_3 hcz23_4 hcz23_5 hcz23_6 hcz23_7 hcz23_8
      try clear hcz25_0 hcz25_1 hcz25_2 hcz25_3 hcz25_4 hcz25_5 hcz25_6 hcz25_7 hcz25_8
      try clear hcz26_0 hcz26_1 hcz26_2 hcz26_3 hcz26_4 hcz26_5 hcz26_6 hcz26_7 hcz26_8
      try clear hcz28_0 hcz28_1 hcz28_2 hcz28_3 hcz28_4 hcz28_5 hcz28_6 hcz28_7 hcz28_8
      try clear hcz29_0 hcz29_1 hcz29_2 hcz29_3 hcz29_4 hcz29_5 hcz29_6 hcz29_7 hcz29_8
      try clear hcz31_0 hcz31_1 hcz31_2 hcz31_3 hcz31_4 hcz31_5 hcz31_6 hcz31_7 hcz31_8
      try clear hcz32_0 hcz32_1 hcz32_2 hcz32_3 hcz32_4 hcz32_5 hcz32_6 hcz32_7 hcz32_8
      try clear hcz9_0 hcz9_1 hcz9_2 hcz9_3 hcz9_4 hcz9_5 hcz9_6 hcz9_7 hcz9_8
      try clear hfz10_0 hfz10_1 hfz10_2 hfz10_3 hfz10_4 hfz10_5 hfz10_6 hfz10_7 hfz10_8
      try clear hfz13_0 hfz13_1 hfz13_2 hfz13_3 hfz13_4 hfz13_5 hfz13_6 hfz13_7 hfz13_8
      try clear hfz14_0 hfz14_1 hfz14_2 hfz14_3 hfz14_4 hfz14_5 hfz14_6 hfz14_7 hfz14_8
      try clear hfz18_0 hfz18_1 hfz18_2 hfz18_3 hfz18_4 hfz18_5 hfz18_6 hfz18_7 hfz18_8
      try clear hfz19_0 hfz19_1 hfz19_2 hfz19_3 hfz19_4 hfz19_5 hfz19_6 hfz19_7 hfz19_8
      try clear hfz22_0 hfz22_1 hfz22_2 hfz22_3 hfz22_4 hfz22_5 hfz22_6 hfz22_7 hfz22_8
      try clear hfz23_0 hfz23_1 hfz23_2 hfz23_3 hfz23_4 hfz23_5 hfz23_6 hfz23_7 hfz23_8
      try clear hfz25_0 hfz25_1 hfz25_2 hfz25_3 hfz25_4 hfz25_5 hfz25_6 hfz25_7 hfz25_8
      try clear hfz26_0 hfz26_1 hfz26_2 hfz26_3 hfz26_4 hfz26_5 hfz26_6 hfz26_7 hfz26_8
      try clear hfz28_0 hfz28_1 hfz28_2 hfz28_3 hfz28_4 hfz28_5 hfz28_6 hfz28_7 hfz28_8
      try clear hfz29_0 hfz29_1 hfz29_2 hfz29_3 hfz29_4 hfz29_5 hfz29_6 hfz29_7 hfz29_8
      try clear hfz31_0 hfz31_1 hfz31_2 hfz31_3 hfz31_4 hfz31_5 hfz31_6 hfz31_7 hfz31_8
      try clear hfz32_0 hfz32_1 hfz32_2 hfz32_3 hfz32_4 hfz32_5 hfz32_6 hfz32_7 hfz32_8
      try clear hfz9_0 hfz9_1 hfz9_2 hfz9_3 hfz9_4 hfz9_5 hfz9_6 hfz9_7 hfz9_8
      try clear p2
      (try clear BK279); (try clear BK280)
      obtain ⟨x5_2, rfl, HA, HK2, BK279, BK280, HB⟩ := hrel
      cases gk with
      | zero => exact absurd HA.out (by simp [althingref05_Same.l0])
      | succ k2 =>
       have H := HA.out
       clear HA
       simp only [althingref05_Same.l0] at H
       by_cases c34 : x5_2 < (l0_6.length : Int)
       · rw [if_pos c34] at H
         have c34b0 : decide (x5_2 < (l0_6.length : Int)) = true := decide_eq_true c34
         clear c34
         by_cases c35 : 0 ≤ x5_2
         · rw [if_pos c35] at H
           have c35b0 : decide (0 ≤ x5_2) = true := decide_eq_true c35
           clear c35
           by_cases c36 : x5_2 < (l1_6.length : Int)
           · rw [if_pos c36] at H
             have c36b0 : decide (x5_2 < (l1_6.length : Int)) = true := decide_eq_true c36
             clear c36
             by_cases c37 : (!((((rd_T38 l0_6 x5_2).f0).toList) == (((rd_T38 l1_6 x5_2).f0).toList)) || ((!(((rd_T38 l0_6 x5_2).f1.f0) == ((rd_T38 l1_6 x5_2).f1.f0)) || (!(((rd_T38 l0_6 x5_2).f1.f1) == ((rd_T38 l1_6 x5_2).f1.f1)))))) = true
             · rw [if_pos c37] at H
               have c37b0 : (!((((rd_T38 l0_6 x5_2).f0).toList) == (((rd_T38 l1_6 x5_2).f0).toList)) || ((!(((rd_T38 l0_6 x5_2).f1.f0) == ((rd_T38 l1_6 x5_2).f1.f0)) || (!(((rd_T38 l0_6 x5_2).f1.f1) == ((rd_T38 l1_6 x5_2).f1.f1)))))) = true := c37
               clear c37
               obtain rfl := Option.some.inj H
               have hnb38 := NB279_280.out
               have hnc38 := NB280_279.out
               refine blk9_ BK279.out fun hcz39_0 hcz39_1 hcz39_2 hcz39_3 hcz39_4 hcz39_5 hcz39_6 hcz39_7 hcz39_8 hfz39_0 hfz39_1 hfz39_2 hfz39_3 hfz39_4 hfz39_5 hfz39_6 hfz39_7 hfz39_8 => ?_
               have p281 : 0 ≤ (x5_2 : Int) := of_decide_eq_true (by first | (with_reducible assumption) | assumption)
               have q281 : x5_2 < (l0_6.length : Int) := of_decide_eq_true (by first | (with_reducible assumption) | assumption)
               obtain ⟨ad281, e281, hx281_0, hx281_1, hx281_2⟩ := at_T38 HR0_6.out x5_2 p281 q281
               cases e281
               replace hx281_0 := (HB.out.cell (World.block_lt_of_cell? w _ hx281_0)).trans hx281_0
               replace hx281_1 := (HB.out.cell (World.block_lt_of_cell? w _ hx281_1)).trans hx281_1
               replace hx281_2 := (HB.out.cell (World.block_lt_of_cell? w _ hx281_2)).trans hx281_2
               replace p281 := eq_true p281
               replace q281 := eq_true q281
               refine blk9_ BK280.out fun hcz40_0 hcz40_1 hcz40_2 hcz40_3 hcz40_4 hcz40_5 hcz40_6 hcz40_7 hcz40_8 hfz40_0 hfz40_1 hfz40_2 hfz40_3 hfz40_4 hfz40_5 hfz40_6 hfz40_7 hfz40_8 => ?_
               have p282 : 0 ≤ (x5_2 : Int) := of_decide_eq_true (by first | (with_reducible assumption) | assumption)
               have q282 : x5_2 < (l1_6.length : Int) := of_decide_eq_true (by first | (with_reducible assumption) | assumption)
               obtain ⟨ad282, e282, hx282_0, hx282_1, hx282_2⟩ := at_T38 HR1_6.out x5_2 p282 q282
               cases e282
               replace hx282_0 := (HB.out.cell (World.block_lt_of_cell? w _ hx282_0)).trans hx282_0
               replace hx282_1 := (HB.out.cell (World.block_lt_of_cell? w _ hx282_1)).trans hx282_1
               replace hx282_2 := (HB.out.cell (World.block_lt_of_cell? w _ hx282_2)).trans hx282_2
               replace p282 := eq_true p282
               replace q282 := eq_true q282
               go_wp2
               repeat (go_quiet (fail); try go_wp2)
               go_ret
               exact ⟨by first | rfl | (simp [errW_none, errW_some] <;> rfl) | (simp [*, errW_none, errW_some] <;> rfl), by repeat (first | (with_reducible first | exact HB.out | apply below_alloc | apply pw_below_drewN | apply below_drew1 | refine below_set ?_ GE279.out | refine below_set ?_ GE280.out) | exact HB.out)⟩
             · rw [if_neg c37] at H
               have c37b0 : (!((((rd_T38 l0_6 x5_2).f0).toList) == (((rd_T38 l1_6 x5_2).f0).toList)) || ((!(((rd_T38 l0_6 x5_2).f1.f0) == ((rd_T38 l1_6 x5_2).f1.f0)) || (!(((rd_T38 l0_6 x5_2).f1.f1) == ((rd_T38 l1_6 x5_2).f1.f1)))))) = false := by simpa using c37
               clear c37
               have H' := Aside0.mk H
               clear H
               have hnb41 := NB279_280.out
               have hnc41 := NB280_279.out
               refine blk9_ BK279.out fun hcz42_0 hcz42_1 hcz42_2 hcz42_3 hcz42_4 hcz42_5 hcz42_6 hcz42_7 hcz42_8 hfz42_0 hfz42_1 hfz42_2 hfz42_3 hfz42_4 hfz42_5 hfz42_6 hfz42_7 hfz42_8 => ?_
               have p281 : 0 ≤ (x5_2 : Int) := of_decide_eq_true (by first | (with_reducible assumption) | assumption)
               have q281 : x5_2 < (l0_6.length : Int) := of_decide_eq_true (by first | (with_reducible assumption) | assumption)
               obtain ⟨ad281, e281, hx281_0, hx281_1, hx281_2⟩ := at_T38 HR0_6.out x5_2 p281 q281
               cases e281
               replace hx281_0 := (HB.out.cell (World.block_lt_of_cell? w _ hx281_0)).trans hx281_0
               replace hx281_1 := (HB.out.cell (World.block_lt_of_cell? w _ hx281_1)).trans hx281_1
               replace hx281_2 := (HB.out.cell (World.block_lt_of_cell? w _ hx281_2)).trans hx281_2
               replace p281 := eq_true p281
               replace q281 := eq_true q281
               refine blk9_ BK280.out fun hcz43_0 hcz43_1 hcz43_2 hcz43_3 hcz43_4 hcz43_5 hcz43_6 hcz43_7 hcz43_8 hfz43_0 hfz43_1 hfz43_2 hfz43_3 hfz43_4 hfz43_5 hfz43_6 hfz43_7 hfz43_8 => ?_
               have p282 : 0 ≤ (x5_2 : Int) := of_decide_eq_true (by first | (with_reducible assumption) | assumption)
               have q282 : x5_2 < (l1_6.length : Int) := of_decide_eq_true (by first | (with_reducible assumption) | assumption)
               obtain ⟨ad282, e282, hx282_0, hx282_1, hx282_2⟩ := at_T38 HR1_6.out x5_2 p282 q282
               cases e282
               replace hx282_0 := (HB.out.cell (World.block_lt_of_cell? w _ hx282_0)).trans hx282_0
               replace hx282_1 := (HB.out.cell (World.block_lt_of_cell? w _ hx282_1)).trans hx282_1
               replace hx282_2 := (HB.out.cell (World.block_lt_of_cell? w _ hx282_2)).trans hx282_2
               replace p282 := eq_true p282
               replace q282 := eq_true q282
               go_wp2
               repeat (go_quiet (fail); try go_wp2)
               go_roundg k2
               case measure => have := HJ2.out; have := HK2.out; omega
               case rel => exact ⟨(wrap64 (x5_2 + 1)), (by first | rfl | (simp; done) | (simp [*]; done)), H', ⟨by have := HJ2.out; have := HK2.out; omega⟩, ⟨by (with_reducible repeat (first | refine blk_drewN ?_ _ | refine blk_drew ?_ | refine blk_alloc ?_ _)); exact BK279.out⟩, ⟨by (with_reducible repeat (first | refine blk_drewN ?_ _ | refine blk_drew ?_ | refine blk_alloc ?_ _)); exact BK280.out⟩, ⟨by repeat (first | (with_reducible first | exact HB.out | apply below_alloc | apply pw_below_drewN | apply below_drew1 | refine below_set ?_ GE279.out | refine below_set ?_ GE280.out) | exact HB.out)⟩⟩
           · rw [if_neg c36] at H
             exact absurd H (by simp)
         · rw [if_neg c35] at H
           exact absurd H (by simp)
       · rw [if_neg c34] at H
         have c34b0 : decide (x5_2 < (l0_6.length : Int)) = false := decide_eq_false c34
         clear c34
         have H' := Aside0.mk H
         clear H
         have hnb44 := NB279_280.out
         have hnc44 := NB280_279.out
         refine blk9_ BK279.out fun hcz45_0 hcz45_1 hcz45_2 hcz45_3 hcz45_4 hcz45_5 hcz45_6 hcz45_7 hcz45_8 hfz45_0 hfz45_1 hfz45_2 hfz45_3 hfz45_4 hfz45_5 hfz45_6 hfz45_7 hfz45_8 => ?_
         go_wp2
         repeat (go_quiet (fail); try go_wp2)
         go_loopg [6] k2 (fun kq v6 w' => ∃ (x6_3 : Int), v6 = .int .i64 x6_3 ∧ Aside0 (althingref05_Same.l1 kq x6_3 a0_0 a0_1 a0_2 a0_3 a0_4 a0_5 l0_6 l0_7 a0_8 a1_0 a1_1 a1_2 a1_3 a1_4 a1_5 l1_6 l1_7 a1_8 = some r) ∧ Aside0 (kq ≤ k2) ∧ Aside0 (w'.heap[gb279]? = some (.cells #[.int .i64 a0_0, .int .i64 a0_1, .int .i64 a0_2, .int .i64 a0_3, .int .i64 a0_4, .int .i64 a0_5, (.slice A0_6 l0_6.length c0_6), (.slice A0_7 l0_7.length c0_7), .bool a0_8] 29 (0, 0))) ∧ Aside0 (w'.heap[gb280]? = some (.cells #[.int .i64 a1_0, .int .i64 a1_1, .int .i64 a1_2, .int .i64 a1_3, .int .i64 a1_4, .int .i64 a1_5, (.slice A1_6 l1_6.length c1_6), (.slice A1_7 l1_7.length c1_7), .bool a1_8] 29 (0, 0))) ∧ Aside0 (Below w.heap.size w w'))
         case atStart => exact ⟨(0), (by first | rfl | (simp; done) | (simp [*]; done)), H', ⟨Nat.le_refl _⟩, ⟨by (with_reducible repeat (first | refine blk_drewN ?_ _ | refine blk_drew ?_ | refine blk_alloc ?_ _)); exact BK279.out⟩, ⟨by (with_reducible repeat (first | refine blk_drewN ?_ _ | refine blk_drew ?_ | refine blk_alloc ?_ _)); exact BK280.out⟩, ⟨by repeat (first | (with_reducible first | exact HB.out | apply below_alloc | apply pw_below_drewN | apply below_drew1 | refine below_set ?_ GE279.out | refine below_set ?_ GE280.out) | exact HB.out)⟩⟩
         case round =>
          clear H'
          try clear c1
          try clear c2
          try clear p2
          try clear q2
          try clear hx2
          try clear c3
          try clear c4
          try clear c6
          try clear c6b0
          try clear c6b1
          try clear p6
          try clear c7
          try clear c7b0
          try clear c8
          try clear c11
          try clear c11b0
          try clear c12
          try clear c15
          try clear c15b0
          try clear c15b1
          try clear c16
          try clear c16b0
          try clear c16b1
          try clear c16b2
          try clear c17
          try clear c20
          try clear c20b0
          try clear c20b1
          try clear c20b2
          try clear c21
          try clear c24
          try clear c27
          try clear p28
          try clear q28
          try clear hx28
          try clear c30
          try clear c33
          try clear c34
          try clear c34b0
          try clear c35
          try clear c35b0
          try clear c36
          try clear c36b0
          try clear c37
          try clear c37b0
          try clear c38
          try clear c41
          try clear c44
          try clear hcz10_0 hcz10_1 hcz10_2 hcz10_3 hcz10_4 hcz10_5 hcz10_6 hcz10_7 hcz10_8
          try clear hcz13_0 hcz13_1 hcz13_2 hcz13_3 hcz13_4 hcz13_5 hcz13_6 hcz13_7 hcz13_8
          try clear hcz14_0 hcz14_1 hcz14_2 hcz14_3 hcz14_4 hcz14_5 hcz14_6 hcz14_7 hcz14_8
          try clear hcz18_0 hcz18_1 hcz18_2 hcz18_3 hcz18_4 hcz18_5 hcz18_6 hcz18_7 hcz18_8
          try clear hcz19_0 hcz19_1 hcz19_2 hcz19_3 hcz19_4 hcz19_5 hcz19_6 hcz19_7 hcz19_8
          try clear hcz22_0 hcz22_1 hcz22_2 hcz22_3 hcz22_4 hcz22_5 hcz22_6 hcz22_7 hcz22_8
          try clear hcz23_0 hcz23_1 hcz23_2 hcz23_3 hcz23_4 hcz23_5 hcz23_6 hcz23_7 hcz23_8
          try clear hcz25_0 hcz25_1 hcz25_2 hcz25_3 hcz25_4 hcz25_5 hcz25_6 hcz25_7 hcz25_8
          try clear hcz26_0 hcz26_1 hcz26_2 hcz26_3 hcz26_4 hcz26_5 hcz26_6 hcz26_7 hcz26_8
          try clear hcz28_0 hcz28_1 hcz28_2 hcz28_3 hcz28_4 hcz28_5 hcz28_6 hcz28_7 hcz28_8
          try clear hcz29_0 hcz29_1 hcz29_2 hcz29_3 hcz29_4 hcz29_5 hcz29_6 hcz29_7 hcz29_8
          try clear hcz31_0 hcz31_1 hcz31_2 hcz31_3 hcz31_4 hcz31_5 hcz31_6 hcz31_7 hcz31_8
          try clear hcz32_0 hcz32_1 hcz32_2 hcz32_3 hcz32_4 hcz32_5 hcz32_6 hcz32_7 hcz32_8
          try clear hcz39_0 hcz39_1 hcz39_2 hcz39_3 hcz39_4 hcz39_5 hcz39_6 hcz39_7 hcz39_8
          try clear hcz40_0 hcz40_1 hcz40_2 hcz40_3 hcz40_4 hcz40_5 hcz40_6 hcz40_7 hcz40_8
          try clear hcz42_0 hcz42_1 hcz42_2 hcz42_3 hcz42_4 hcz42_5 hcz42_6 hcz42_7 hcz42_8
          try clear hcz43_0 hcz43_1 hcz43_2 hcz43_3 hcz43_4 hcz43_5 hcz43_6 hcz43_7 hcz43_8
          try clear hcz45_0 hcz45_1 hcz45_2 hcz45_3 hcz45_4 hcz45_5 hcz45_6 hcz45_7 hcz45_8
          try clear hcz9_0 hcz9_1 hcz9_2 hcz9_3 hcz9_4 hcz9_5 hcz9_6 hcz9_7 hcz9_8
          try clear hfz10_0 hfz10_1 hfz10_2 hfz10_3 hfz10_4 hfz10_5 hfz10_6 hfz10_7 hfz10_8
          try clear hfz13_0 hfz13_1 hfz13_2 hfz13_3 hfz13_4 hfz13_5 hfz13_6 hfz13_7 hfz13_8
          try clear hfz14_0 hfz14_1 hfz14_2 hfz14_3 hfz14_4 hfz14_5 hfz14_6 hfz14_7 hfz14_8
          try clear hfz18_0 hfz18_1 hfz18_2 hfz18_3 hfz18_4 hfz18_5 hfz18_6 hfz18_7 hfz18_8
          try clear hfz19_0 hfz19_1 hfz19_2 hfz19_3 hfz19_4 hfz19_5 hfz19_6 hfz19_7 hfz19_8
          try clear hfz22_0 hfz22_1 hfz22_2 hfz22_3 hfz22_4 hfz22_5 hfz22_6 hfz22_7 hfz22_8
          try clear hfz23_0 hfz23_1 hfz23_2 hfz23_3 hfz23_4 hfz23_5 hfz23_6 hfz23_7 hfz23_8
          try clear hfz25_0 hfz25_1 hfz25_2 hfz25_3 hfz25_4 hfz25_5 hfz25_6 hfz25_7 hfz25_8
          try clear hfz26_0 hfz26_1 hfz26_2 hfz26_3 hfz26_4 hfz26_5 hfz26_6 hfz26_7 hfz26_8
          try clear hfz28_0 hfz28_1 hfz28_2 hfz28_3 hfz28_4 hfz28_5 hfz28_6 hfz28_7 hfz28_8
          try clear hfz29_0 hfz29_1 hfz29_2 hfz29_3 hfz29_4 hfz29_5 hfz29_6 hfz29_7 hfz29_8
          try clear hfz31_0 hfz31_1 hfz31_2 hfz31_3 hfz31_4 hfz31_5 hfz31_6 hfz31_7 hfz31_8
          try clear hfz32_0 hfz32_1 hfz32_2 hfz32_3 hfz32_4 hfz32_5 hfz32_6 hfz32_7 hfz32_8
          try clear hfz39_0 hfz39_1 hfz39_2 hfz39_3 hfz39_4 hfz39_5 hfz39_6 hfz39_7 hfz39_8
          try clear hfz40_0 hfz40_1 hfz40_2 hfz40_3 hfz40_4 hfz40_5 hfz40_6 hfz40_7 hfz40_8
          try clear hfz42_0 hfz42_1 hfz42_2 hfz42_3 hfz42_4 hfz42_5 hfz42_6 hfz42_7 hfz42_8
          try clear hfz43_0 hfz43_1 hfz43_2 hfz43_3 hfz43_4 hfz43_5 hfz43_6 hfz43_7 hfz43_8
          try clear hfz45_0 hfz45_1 hfz45_2 hfz45_3 hfz45_4 hfz45_5 hfz45_6 hfz45_7 hfz45_8
          try clear hfz9_0 hfz9_1 hfz9_2 hfz9_3 hfz9_4 hfz9_5 hfz9_6 hfz9_7 hfz9_8
          try clear hx281_0
          try clear hx281_1
          try clear hx281_2
          try clear hx282_0
          try clear hx282_1
          try clear hx282_2
          try clear p2
          try clear p281
          try clear p282
          try clear q281
          try clear q282
          (try clear BK279); (try clear BK280)
          obtain ⟨x6_3, rfl, HA, HK3, BK279, BK280, HB⟩ := hrel
          cases gk with
          | zero => exact absurd HA.out (by simp [althingref05_Same.l1])
          | succ k3 =>
           have H := HA.out
           clear HA
           simp only [althingref05_Same.l1] at H
           by_cases c46 : x6_3 < (l0_7.length : Int)
           · rw [if_pos c46] at H
             have c46b0 : decide (x6_3 < (l0_7.length : Int)) = true := decide_eq_true c46
             clear c46
             by_cases c47 : 0 ≤ x6_3
             · rw [if_pos c47] at H
               have c47b0 : decide (0 ≤ x6_3) = true := decide_eq_true c47
               clear c47
               by_cases c48 : x6_3 < (l1_7.length : Int)
               · rw [if_pos c48] at H
                 have c48b0 : decide (x6_3 < (l1_7.length : Int)) = true := decide_eq_true c48
                 clear c48
                 by_cases c49 : (!((((rd_T40 l0_7 x6_3).f0).toList) == (((rd_T40 l1_7 x6_3).f0).toList)) || (!((((rd_T40 l0_7 x6_3).f1).toList) == (((rd_T40 l1_7 x6_3).f1).toList)))) = true
                 · rw [if_pos c49] at H
                   have c49b0 : (!((((rd_T40 l0_7 x6_3).f0).toList) == (((rd_T40 l1_7 x6_3).f0).toList)) || (!((((rd_T40 l0_7 x6_3).f1).toList) == (((rd_T40 l1_7 x6_3).f1).toList)))) = true := c49
                   clear c49
                   obtain rfl := Option.some.inj H
                   have hnb50 := NB279_280.out
                   have hnc50 := NB280_279.out
                   refine blk9_ BK279.out fun hcz51_0 hcz51_1 hcz51_2 hcz51_3 hcz51_4 hcz51_5 hcz51_6 hcz51_7 hcz51_8 hfz51_0 hfz51_1 hfz51_2 hfz51_3 hfz51_4 hfz51_5 hfz51_6 hfz51_7 hfz51_8 => ?_
                   have p283 : 0 ≤ (x6_3 : Int) := of_decide_eq_true (by first | (with_reducible assumption) | assumption)
                   have q283 : x6_3 < (l0_7.length : Int) := of_decide_eq_true (by first | (with_reducible assumption) | assumption)
                   obtain ⟨ad283, e283, hx283_0, hx283_1⟩ := at_T40 HR0_7.out x6_3 p283 q283
                   cases e283
                   replace hx283_0 := (HB.out.cell (World.block_lt_of_cell? w _ hx283_0)).trans hx283_0
                   replace hx283_1 := (HB.out.cell (World.block_lt_of_cell? w _ hx283_1)).trans hx283_1
                   replace p283 := eq_true p283
                   replace q283 := eq_true q283
                   refine blk9_ BK280.out fun hcz52_0 hcz52_1 hcz52_2 hcz52_3 hcz52_4 hcz52_5 hcz52_6 hcz52_7 hcz52_8 hfz52_0 hfz52_1 hfz52_2 hfz52_3 hfz52_4 hfz52_5 hfz52_6 hfz52_7 hfz52_8 => ?_
                   have p284 : 0 ≤ (x6_3 : Int) := of_decide_eq_true (by first | (with_reducible assumption) | assumption)
                   have q284 : x6_3 < (l1_7.length : Int) := of_decide_eq_true (by first | (with_reducible assumption) | assumption)
                   obtain ⟨ad284, e284, hx284_0, hx284_1⟩ := at_T40 HR1_7.out x6_3 p284 q284
                   cases e284
                   replace hx284_0 := (HB.out.cell (World.block_lt_of_cell? w _ hx284_0)).trans hx284_0
                   replace hx284_1 := (HB.out.cell (World.block_lt_of_cell? w _ hx284_1)).trans hx284_1
                   replace p284 := eq_true p284
                   replace q284 := eq_true q284
                   go_wp2
                   repeat (go_quiet (fail); try go_wp2)
                   go_ret
                   exact ⟨by first | rfl | (simp [errW_none, errW_some] <;> rfl) | (simp [*, errW_none, errW_some] <;> rfl), by repeat (first | (with_reducible first | exact HB.out | apply below_alloc | apply pw_below_drewN | apply below_drew1 | refine below_set ?_ GE279.out | refine below_set ?_ GE280.out) | exact HB.out)⟩
                 · rw [if_neg c49] at H
                   have c49b0 : (!((((rd_T40 l0_7 x6_3).f0).toList) == (((rd_T40 l1_7 x6_3).f0).toList)) || (!((((rd_T40 l0_7 x6_3).f1).toList) == (((rd_T40 l1_7 x6_3).f1).toList)))) = false := by simpa using c49
                   clear c49
                   have H' := Aside0.mk H
                   clear H
                   have hnb53 := NB279_280.out
                   have hnc53 := NB280_279.out
                   refine blk9_ BK279.out fun hcz54_0 hcz54_1 hcz54_2 hcz54_3 hcz54_4 hcz54_5 hcz54_6 hcz54_7 hcz54_8 hfz54_0 hfz54_1 hfz54_2 hfz54_3 hfz54_4 hfz54_5 hfz54_6 hfz54_7 hfz54_8 => ?_
                   have p283 : 0 ≤ (x6_3 : Int) := of_decide_eq_true (by first | (with_reducible assumption) | assumption)
                   have q283 : x6_3 < (l0_7.length : Int) := of_decide_eq_true (by first | (with_reducible assumption) | assumption)
                   obtain ⟨ad283, e283, hx283_0, hx283_1⟩ := at_T40 HR0_7.out x6_3 p283 q283
                   cases e283
                   replace hx283_0 := (HB.out.cell (World.block_lt_of_cell? w _ hx283_0)).trans hx283_0
                   replace hx283_1 := (HB.out.cell (World.block_lt_of_cell? w _ hx283_1)).trans hx283_1
                   replace p283 := eq_true p283
                   replace q283 := eq_true q283
                   refine blk9_ BK280.out fun hcz55_0 hcz55_1 hcz55_2 hcz55_3 hcz55_4 hcz55_5 hcz55_6 hcz55_7 hcz55_8 hfz55_0 hfz55_1 hfz55_2 hfz55_3 hfz55_4 hfz55_5 hfz55_6 hfz55_7 hfz55_8 => ?_
                   have p284 : 0 ≤ (x6_3 : Int) := of_decide_eq_true (by first | (with_reducible assumption) | assumption)
                   have q284 : x6_3 < (l1_7.length : Int) := of_decide_eq_true (by first | (with_reducible assumption) | assumption)
                   obtain ⟨ad284, e284, hx284_0, hx284_1⟩ := at_T40 HR1_7.out x6_3 p284 q284
                   cases e284
                   replace hx284_0 := (HB.out.cell (World.block_lt_of_cell? w _ hx284_0)).trans hx284_0
                   replace hx284_1 := (HB.out.cell (World.block_lt_of_cell? w _ hx284_1)).trans hx284_1
                   replace p284 := eq_true p284
                   replace q284 := eq_true q284
                   go_wp2
                   repeat (go_quiet (fail); try go_wp2)
                   go_roundg k3
                   case measure => have := HJ2.out; have := HK2.out; have := HK3.out; omega
                   case rel => exact ⟨(wrap64 (x6_3 + 1)), (by first | rfl | (simp; done) | (simp [*]; done)), H', ⟨by have := HJ2.out; have := HK2.out; have := HK3.out; omega⟩, ⟨by (with_reducible repeat (first | refine blk_drewN ?_ _ | refine blk_drew ?_ | refine blk_alloc ?_ _)); exact BK279.out⟩, ⟨by (with_reducible repeat (first | refine blk_drewN ?_ _ | refine blk_drew ?_ | refine blk_alloc ?_ _)); exact BK280.out⟩, ⟨by repeat (first | (with_reducible first | exact HB.out | apply below_alloc | apply pw_below_drewN | apply below_drew1 | refine below_set ?_ GE279.out | refine below_set ?_ GE280.out) | exact HB.out)⟩⟩
               · rw [if_neg c48] at H
                 exact absurd H (by simp)
             · rw [if_neg c47] at H
               exact absurd H (by simp)
           · rw [if_neg c46] at H
             have c46b0 : decide (x6_3 < (l0_7.length : Int)) = false := decide_eq_false c46
             clear c46
             obtain rfl := Option.some.inj H
             have hnb56 := NB279_280.out
             have hnc56 := NB280_279.out
             refine blk9_ BK279.out fun hcz57_0 hcz57_1 hcz57_2 hcz57_3 hcz57_4 hcz57_5 hcz57_6 hcz57_7 hcz57_8 hfz57_0 hfz57_1 hfz57_2 hfz57_3 hfz57_4 hfz57_5 hfz57_6 hfz57_7 hfz57_8 => ?_
             go_wp2
             repeat (go_quiet (fail); try go_wp2)
             go_ret
             exact ⟨by first | rfl | (simp [errW_none, errW_some] <;> rfl) | (simp [*, errW_none, errW_some] <;> rfl), by repeat (first | (with_reducible first | exact HB.out | apply below_alloc | apply pw_below_drewN | apply below_drew1 | refine below_set ?_ GE279.out | refine below_set ?_ GE280.out) | exact HB.out)⟩
end Go.Proofs.Ytnjeeedndnfglaa.X
end
section
namespace Go.Proofs.Ytnjeeedndnfglaa.X
open Go.RowKit Go.Proofs.YtnjeeedndnfglaaW.PrintWords Go.Proofs.YtnjeeedndnfglaaW.PrintLast Go.Proofs.YtnjeeedndnfglaaW.PrintMore
attribute [local go_sem] max2_int min2_int max_two min_two max_three min_three max_four min_four   -- for this text's walks alone
set_option linter.unusedVariables false
set_option linter.unusedSimpArgs false
/-! ### command_Decided: function 12 -/
def command_Decided.f (k : Nat) (a0_0 : Int) (a0_1 : Int) (a0_2 : Int) (a0_3 : Int) (a0_4 : Int) (a0_5 : Int) (l0_6 : List (S38)) (l0_7 : List (S40)) (a0_8 : Bool) (a1 : Bool) : Option (Int × Int × Int × Int × Int × Int × (List (S38)) × (List (S40)) × Bool × Int) := (command_Right.f k a0_0 a0_1 a0_2 a0_3 a0_4 a0_5 l0_6 l0_7 a0_8).bind fun t287 => (if t287 = true then (if a0_0 = 1 then ((command_Clone.f a0_0 a0_1 a0_2 a0_3 a0_4 a0_5 l0_6 l0_7 a0_8).bind fun bt288 => (some (2, bt288.2.1, bt288.2.2.1, bt288.2.2.2.1, bt288.2.2.2.2.1, bt288.2.2.2.2.2.1, bt288.2.2.2.2.2.2.1, bt288.2.2.2.2.2.2.2.1, a1, 0))) else (some (0, 0, 0, 0, 0, 0, ([] : List (S38)), ([] : List (S40)), false, 1))) else (some (0, 0, 0, 0, 0, 0, ([] : List (S38)), ([] : List (S40)), false, 1)))
set_option maxHeartbeats 8000000 in
set_option maxRecDepth 100000 in
theorem command_Decided.calls (k : Nat) (a0_0 : Int) (a0_1 : Int) (a0_2 : Int) (a0_3 : Int) (a0_4 : Int) (a0_5 : Int) (A0_6 : Option Addr) (c0_6 : Nat) (l0_6 : List (S38)) (A0_7 : Option Addr) (c0_7 : Nat) (l0_7 : List (S40)) (a0_8 : Bool) (a1 : Bool) (r1 : Int) (r2 : Int) (r3 : Int) (r4 : Int) (r5 : Int) (r6 : Int) (r7 : List (S38)) (r8 : List (S40)) (r9 : Bool) (r10 : Int) (w : World) (hr0_6 : Kd.C k38 w A0_6 l0_6.length l0_6) (hc0_6 : l0_6.length ≤ c0_6) (hr0_7 : Kd.C k40 w A0_7 l0_7.length l0_7) (hc0_7 : l0_7.length ≤ c0_7) (h : command_Decided.f k a0_0 a0_1 a0_2 a0_3 a0_4 a0_5 l0_6 l0_7 a0_8 a1 = some (r1, r2, r3, r4, r5, r6, r7, r8, r9, r10)) :
 Calls Try.prog 12 #[.agg #[.int .i64 a0_0, .int .i64 a0_1, .int .i64 a0_2, .int .i64 a0_3, .int .i64 a0_4, .int .i64 a0_5, .slice A0_6 l0_6.length c0_6, .slice A0_7 l0_7.length c0_7, .bool a0_8], .bool a1] w fun e w' => ∃ v6_ v7_ : Value, e = .returned (.tuple #[.agg #[.int .i64 r1, .int .i64 r2, .int .i64 r3, .int .i64 r4, .int .i64 r5, .int .i64 r6, v6_, v7_, .bool r9], .int .i64 r10]) ∧ Kd.R k38 38 w' w.heap.size (fun _ => True) v6_ r7 ∧ Kd.R k40 40 w' w.heap.size (fun _ => True) v7_ r8 ∧ Below w.heap.size w w' := by
 have hu29 := Try.underlying29
 have HR0_6 := Aside0.mk hr0_6
 have HC0_6 := Aside0.mk hc0_6
 clear hr0_6 hc0_6
 have HR0_7 := Aside0.mk hr0_7
 have HC0_7 := Aside0.mk hc0_7
 clear hr0_7 hc0_7
 have HB := Aside0.mk (Below.refl w.heap.size w)
 have H : ((command_Right.f k a0_0 a0_1 a0_2 a0_3 a0_4 a0_5 l0_6 l0_7 a0_8).bind fun t287 => (if t287 = true then (if a0_0 = 1 then ((command_Clone.f a0_0 a0_1 a0_2 a0_3 a0_4 a0_5 l0_6 l0_7 a0_8).bind fun bt288 => (some (2, bt288.2.1, bt288.2.2.1, bt288.2.2.2.1, bt288.2.2.2.2.1, bt288.2.2.2.2.2.1, bt288.2.2.2.2.2.2.1, bt288.2.2.2.2.2.2.2.1, a1, 0))) else (some (0, 0, 0, 0, 0, 0, ([] : List (S38)), ([] : List (S40)), false, 1))) else (some (0, 0, 0, 0, 0, 0, ([] : List (S38)), ([] : List (S40)), false, 1)))) = some (r1, r2, r3, r4, r5, r6, r7, r8, r9, r10) := h
 clear h
 obtain ⟨t287, A3, H⟩ := bs_ H
 by_cases c4 : t287 = true
 · subst c4
   rw [if_pos rfl] at H
   by_cases c5 : a0_0 = 1
   · rw [if_pos c5] at H
     have c5b0 : (a0_0 == 1) = true := beq_iff_eq.mpr c5
     have c5b1 : (a0_0 != 1) = false := bne_eq_false_iff_eq.mpr c5
     clear c5
     replace H := Option.bind_eq_some_iff.mp H
     obtain ⟨⟨t288, t289, t290, t291, t292, t293, t294, t297, t300⟩, A60, H⟩ := H
     replace H : (some (2, t289, t290, t291, t292, t293, t294, t297, a1, 0)) = some (r1, r2, r3, r4, r5, r6, r7, r8, r9, r10) := H
     have A6 := Aside0.mk A60
     clear A60
     simp only [Option.some.injEq, Prod.mk.injEq] at H
     obtain ⟨rfl, rfl, rfl, rfl, rfl, rfl, rfl, rfl, rfl, rfl⟩ := H
     go_enter Try.func12, Try.ntmps12
     go_wp2_with (first | ((with_reducible refine gate_dst (N := 2) rfl ?_); refine box_event ?hg (N := 2) ?hd (cs := #[.int .i64 a0_0, .int .i64 a0_1, .int .i64 a0_2, .int .i64 a0_3, .int .i64 a0_4, .int .i64 a0_5, .slice A0_6 l0_6.length c0_6, .slice A0_7 l0_7.length c0_7, .bool a0_8]) (t := 29) ?hr ?_; (case hd => rfl); (case hg => rfl); (case hr => first | (go_simp; done) | (go_simp; rfl)); intro gb285 hg w7 hbox hb; have n0_ := Aside0.mk (below_step lb_ hb); have n1_ := Aside0.mk (hbox); have n2_ := Aside0.mk ((by rw [hg]; exact (below_size lb_) : w.heap.size ≤ gb285)); have n3_ := Aside0.mk ((by rw [hg]; exact (below_size lb_) : w.heap.size ≤ gb285)); clear HB; have HB := n0_; have BK285 := n1_; have GW285 := n2_; have GE285 := n3_; clear n0_ n1_ n2_ n3_; clear hb hbox hg) | ((with_reducible refine gate_dst (N := 4) rfl ?_); refine box_event ?hg (N := 4) ?hd (cs := #[.int .i64 0, .int .i64 0, .int .i64 0, .int .i64 0, .int .i64 0, .int .i64 0, .slice none 0 0, .slice none 0 0, .bool false]) (t := 29) ?hr ?_; (case hd => rfl); (case hg => rfl); (case hr => first | (go_simp; done) | (go_simp; rfl)); intro gb286 hg w8 hbox hb; have n0_ := Aside0.mk (blk_below (kb_ BK285.out) hb); have n1_ := Aside0.mk (below_step (by repeat (first | (with_reducible first | exact HB.out | apply below_alloc | apply pw_below_drewN | apply below_drew1 | refine below_set ?_ GE285.out) | exact HB.out)) hb); have n2_ := Aside0.mk (hbox); have n3_ := Aside0.mk ((by rw [hg]; exact (below_size (by repeat (first | (with_reducible first | exact HB.out | apply below_alloc | apply pw_below_drewN | apply below_drew1 | refine below_set ?_ GE285.out) | exact HB.out))) : w.heap.size ≤ gb286)); have n4_ := Aside0.mk ((by rw [hg]; exact (below_size (by repeat (first | (with_reducible first | exact HB.out | apply below_alloc | apply pw_below_drewN | apply below_drew1 | refine below_set ?_ GE285.out) | exact HB.out))) : w.heap.size ≤ gb286)); have n5_ := Aside0.mk ((by rw [hg]; exact Nat.ne_of_lt (blk_lt (kb_ BK285.out)) : gb285 ≠ gb286)); have n6_ := Aside0.mk ((by rw [hg]; exact Nat.ne_of_gt (blk_lt (kb_ BK285.out)) : gb286 ≠ gb285)); clear BK285; clear HB; have BK285 := n0_; have HB := n1_; have BK286 := n2_; have GW286 := n3_; have GE286 := n4_; have NB285_286 := n5_; have NB286_285 := n6_; clear n0_ n1_ n2_ n3_ n4_ n5_ n6_; clear hb hbox hg) | ((with_reducible refine gate_dst (N := 7) rfl ?_); refine blk_load_event ?lg (N := 7) ?ld (t := 29) (x := ?lxxz9) ?lo (g := gb285) ?lx (cs := _) BK285.out ?lD ?lt ?_; (case lg => rfl); (case ld => rfl); (case lo => rfl); (case lx => first | rfl | (go_simp; done) | (go_simp; rfl)); (case lD => exact ⟨_, Try.underlying29, rfl⟩); (case lt => kernel_rfl)) | ((with_reducible refine gate_callee (f := 14) rfl ?_); refine goesL_ (some 8) rfl rfl Try.func14 (by kernel_rfl) rfl #[.agg #[.int .i64 a0_0, .int .i64 a0_1, .int .i64 a0_2, .int .i64 a0_3, .int .i64 a0_4, .int .i64 a0_5, .slice A0_6 l0_6.length c0_6, .slice A0_7 l0_7.length c0_7, .bool a0_8]] rfl (by (try simp only [List.map_toArray, List.map_cons, List.map_nil]); first | done | rfl | (simp only [List.length_drop, List.length_take]; rfl)) ?_; (with_reducible refine (command_Right.calls k a0_0 a0_1 a0_2 a0_3 a0_4 a0_5 _ _ l0_6 _ _ l0_7 a0_8 true _ ?side1 ?side2 ?side3 ?side4 A3.out).mono ?_); (case side1 => exact kc_ (Kd.C_below HR0_6.out HB.out)); (case side2 => exact HC0_6.out); (case side3 => exact kc_ (Kd.C_below HR0_7.out HB.out)); (case side4 => exact HC0_7.out); rintro e w10 ⟨rfl, hb⟩; refine ⟨_, rfl, ?_⟩; have n0_ := Aside0.mk (blk_below (kb_ BK285.out) hb); have n1_ := Aside0.mk (blk_below (kb_ BK286.out) hb); have n2_ := Aside0.mk (below_step (by repeat (first | (with_reducible first | exact HB.out | apply below_alloc | apply pw_below_drewN | apply below_drew1 | refine below_set ?_ GE285.out | refine below_set ?_ GE286.out) | exact HB.out)) hb); clear BK285; clear BK286; clear HB; have BK285 := n0_; have BK286 := n1_; have HB := n2_; clear n0_ n1_ n2_; (try clear hb); (try clear hb2); (try clear hk); (try clear hi); have hnb11 := NB285_286.out; have hnc11 := NB286_285.out; refine blk9_ BK285.out fun hcz12_0 hcz12_1 hcz12_2 hcz12_3 hcz12_4 hcz12_5 hcz12_6 hcz12_7 hcz12_8 hfz12_0 hfz12_1 hfz12_2 hfz12_3 hfz12_4 hfz12_5 hfz12_6 hfz12_7 hfz12_8 => ?_) | ((with_reducible refine gate_dst (N := 16) rfl ?_); refine blk_load_event ?lg (N := 16) ?ld (t := 29) (x := ?lxxz13) ?lo (g := gb285) ?lx (cs := _) BK285.out ?lD ?lt ?_; (case lg => rfl); (case ld => rfl); (case lo => rfl); (case lx => first | rfl | (go_simp; done) | (go_simp; rfl)); (case lD => exact ⟨_, Try.underlying29, rfl⟩); (case lt => kernel_rfl)) | ((with_reducible refine gate_callee (f := 10) rfl ?_); refine goesL_ (some 17) rfl rfl Try.func10 (by kernel_rfl) rfl #[.agg #[.int .i64 a0_0, .int .i64 a0_1, .int .i64 a0_2, .int .i64 a0_3, .int .i64 a0_4, .int .i64 a0_5, .slice A0_6 l0_6.length c0_6, .slice A0_7 l0_7.length c0_7, .bool a0_8]] rfl (by (try simp only [List.map_toArray, List.map_cons, List.map_nil]); first | done | rfl | (simp only [List.length_drop, List.length_take]; rfl)) ?_; (with_reducible refine (command_Clone.calls a0_0 a0_1 a0_2 a0_3 a0_4 a0_5 _ _ l0_6 _ _ l0_7 a0_8 t288 t289 t290 t291 t292 t293 t294 t297 t300 _ ?side1 ?side2 ?side3 ?side4 A6.out).mono ?_); (case side1 => exact kc_ (Kd.C_below HR0_6.out HB.out)); (case side2 => exact HC0_6.out); (case side3 => exact kc_ (Kd.C_below HR0_7.out HB.out)); (case side4 => exact HC0_7.out); rintro e w14 ⟨v295, v298, rfl, ho0, ho1, hb⟩; refine ⟨_, rfl, ?_⟩; have n0_ := Aside0.mk (Kd.R_lower ho0 (below_size (by repeat (first | (with_reducible first | exact HB.out | apply below_alloc | apply pw_below_drewN | apply below_drew1 | refine below_set ?_ GE285.out | refine below_set ?_ GE286.out) | exact HB.out)))); have n1_ := Aside0.mk (Kd.R_lower ho1 (below_size (by repeat (first | (with_reducible first | exact HB.out | apply below_alloc | apply pw_below_drewN | apply below_drew1 | refine below_set ?_ GE285.out | refine below_set ?_ GE286.out) | exact HB.out)))); have n2_ := Aside0.mk (blk_below (kb_ BK285.out) hb); have n3_ := Aside0.mk (blk_below (kb_ BK286.out) hb); have n4_ := Aside0.mk (below_step (by repeat (first | (with_reducible first | exact HB.out | apply below_alloc | apply pw_below_drewN | apply below_drew1 | refine below_set ?_ GE285.out | refine below_set ?_ GE286.out) | exact HB.out)) hb); clear BK285; clear BK286; clear HB; have HO296 := n0_; have HO299 := n1_; have BK285 := n2_; have BK286 := n3_; have HB := n4_; clear n0_ n1_ n2_ n3_ n4_; (try clear hb); (try clear hb2); (try clear hk); (try clear hi); (try clear ho0); (try clear ho1); obtain ⟨Ao15, co15, eo15⟩ := Kd.R_slice HO296.out; subst eo15; obtain ⟨Ao16, co16, eo16⟩ := Kd.R_slice HO299.out; subst eo16) | ((with_reducible refine gate_dst (N := 6) rfl ?_); refine alloc_store_event ?hg1 (N := 6) ?hd1 ?hg2 ?hd2 ?ho2 (cs0 := #[.int .i64 0, .int .i64 0, .int .i64 0, .int .i64 0, .int .i64 0, .int .i64 0, .slice none 0 0, .slice none 0 0, .bool false]) (cs := #[.int .i64 t288, .int .i64 t289, .int .i64 t290, .int .i64 t291, .int .i64 t292, .int .i64 t293, .slice Ao15 t294.length co15, .slice Ao16 t297.length co16, .bool t300]) (t := 29) (x := ?xxw17) ?hr ?hp ?hx ?hs ?h1 ?ht ?_; (case hg1 => rfl); (case hd1 => rfl); (case hg2 => rfl); (case hd2 => rfl); (case ho2 => rfl); (case hr => first | (go_simp; done) | (go_simp; rfl)); (case hp => rfl); (case hx => rfl); (case hs => rfl); (case h1 => rfl); (case ht => kernel_rfl); intro gb301 hg w17 hbox hb; have n0_ := Aside0.mk (Kd.R_below (kr_ HO296.out) hb); have n1_ := Aside0.mk (Kd.R_below (kr_ HO299.out) hb); have n2_ := Aside0.mk (blk_below (kb_ BK285.out) hb); have n3_ := Aside0.mk (blk_below (kb_ BK286.out) hb); have n4_ := Aside0.mk (below_step (by repeat (first | (with_reducible first | exact HB.out | apply below_alloc | apply pw_below_drewN | apply below_drew1 | refine below_set ?_ GE285.out | refine below_set ?_ GE286.out) | exact HB.out)) hb); have n5_ := Aside0.mk (hbox); have n6_ := Aside0.mk ((by rw [hg]; exact (below_size (by repeat (first | (with_reducible first | exact HB.out | apply below_alloc | apply pw_below_drewN | apply below_drew1 | refine below_set ?_ GE285.out | refine below_set ?_ GE286.out) | exact HB.out))) : w.heap.size ≤ gb301)); have n7_ := Aside0.mk ((by rw [hg]; exact (below_size (by repeat (first | (with_reducible first | exact HB.out | apply below_alloc | apply pw_below_drewN | apply below_drew1 | refine below_set ?_ GE285.out | refine below_set ?_ GE286.out) | exact HB.out))) : w.heap.size ≤ gb301)); have n8_ := Aside0.mk ((by rw [hg]; exact Nat.ne_of_lt (blk_lt (kb_ BK285.out)) : gb285 ≠ gb301)); have n9_ := Aside0.mk ((by rw [hg]; exact Nat.ne_of_gt (blk_lt (kb_ BK285.out)) : gb301 ≠ gb285)); have n10_ := Aside0.mk ((by rw [hg]; exact Nat.ne_of_lt (blk_lt (kb_ BK286.out)) : gb286 ≠ gb301)); have n11_ := Aside0.mk ((by rw [hg]; exact Nat.ne_of_gt (blk_lt (kb_ BK286.out)) : gb301 ≠ gb286)); clear HO296; clear HO299; clear BK285; clear BK286; clear HB; have HO296 := n0_; have HO299 := n1_; have BK285 := n2_; have BK286 := n3_; have HB := n4_; have BK301 := n5_; have GW301 := n6_; have GE301 := n7_; have NB285_301 := n8_; have NB301_285 := n9_; have NB286_301 := n10_; have NB301_286 := n11_; clear n0_ n1_ n2_ n3_ n4_ n5_ n6_ n7_ n8_ n9_ n10_ n11_; clear hb hbox hg; have hnb18 := NB301_285.out; have hnc18 := NB285_301.out; have hnb19 := NB301_286.out; have hnc19 := NB286_301.out; refine blk9_ BK301.out fun hcz20_0 hcz20_1 hcz20_2 hcz20_3 hcz20_4 hcz20_5 hcz20_6 hcz20_7 hcz20_8 hfz20_0 hfz20_1 hfz20_2 hfz20_3 hfz20_4 hfz20_5 hfz20_6 hfz20_7 hfz20_8 => ?_; refine blk9_ BK286.out fun hcz21_0 hcz21_1 hcz21_2 hcz21_3 hcz21_4 hcz21_5 hcz21_6 hcz21_7 hcz21_8 hfz21_0 hfz21_1 hfz21_2 hfz21_3 hfz21_4 hfz21_5 hfz21_6 hfz21_7 hfz21_8 => ?_) | ((with_reducible refine gate_store (t := 29) (p := 4) rfl ?_); refine store_event (t := 29) (p := 4) (v := ?vo_w22) (w1 := (((((((((((w17.setCell ⟨gb301, 0, none⟩ (.int .i64 2)).setCell ⟨gb301, 8, none⟩ (.bool a1)).setCell ⟨gb286, 0, none⟩ (.int .i64 2)).setCell ⟨gb286, 1, none⟩ (.int .i64 t289)).setCell ⟨gb286, 2, none⟩ (.int .i64 t290)).setCell ⟨gb286, 3, none⟩ (.int .i64 t291)).setCell ⟨gb286, 4, none⟩ (.int .i64 t292)).setCell ⟨gb286, 5, none⟩ (.int .i64 t293)).setCell ⟨gb286, 6, none⟩ (.slice Ao15 t294.length co15)).setCell ⟨gb286, 7, none⟩ (.slice Ao16 t297.length co16)).setCell ⟨gb286, 8, none⟩ (.bool a1))) ?hg ?ho ?hn ?hr ?_; (case ho => rfl); (case hg => rfl); (case hn => rfl); (case hr => first | (go_simp; done) | (go_simp; rfl)); intro w22 hw; have n0_ : Aside0 (Kd.R k38 38 w22 w.heap.size (fun _ => True) (.slice Ao15 t294.length co15) t294) := ⟨(by rw [hw]; exact (by (with_reducible repeat (first | apply Kd.R_alloc | apply Kd.R_drewN | apply Kd.R_drew)); exact Kd.R_mono (Kd.R_far (p := ⟨gb286, 8, none⟩) (Kd.R_far (p := ⟨gb286, 7, none⟩) (Kd.R_far (p := ⟨gb286, 6, none⟩) (Kd.R_far (p := ⟨gb286, 5, none⟩) (Kd.R_far (p := ⟨gb286, 4, none⟩) (Kd.R_far (p := ⟨gb286, 3, none⟩) (Kd.R_far (p := ⟨gb286, 2, none⟩) (Kd.R_far (p := ⟨gb286, 1, none⟩) (Kd.R_far (p := ⟨gb286, 0, none⟩) (Kd.R_far (p := ⟨gb301, 8, none⟩) (Kd.R_far (p := ⟨gb301, 0, none⟩) (Kd.R_types (Kd.R_types HO296.out BK301.out (by decide)) BK286.out (by decide)) (fun _ hk => hk.1.2) (.int .i64 2)) (fun _ hk => hk.1.2) (.bool a1)) (fun _ hk => hk.2) (.int .i64 2)) (fun _ hk => hk.2) (.int .i64 t289)) (fun _ hk => hk.2) (.int .i64 t290)) (fun _ hk => hk.2) (.int .i64 t291)) (fun _ hk => hk.2) (.int .i64 t292)) (fun _ hk => hk.2) (.int .i64 t293)) (fun _ hk => hk.2) (.slice Ao15 t294.length co15)) (fun _ hk => hk.2) (.slice Ao16 t297.length co16)) (fun _ hk => hk.2) (.bool a1)) (fun _ hk => trivial)))⟩; have n1_ : Aside0 (Kd.R k40 40 w22 w.heap.size (fun _ => True) (.slice Ao16 t297.length co16) t297) := ⟨(by rw [hw]; exact (by (with_reducible repeat (first | apply Kd.R_alloc | apply Kd.R_drewN | apply Kd.R_drew)); exact Kd.R_mono (Kd.R_far (p := ⟨gb286, 8, none⟩) (Kd.R_far (p := ⟨gb286, 7, none⟩) (Kd.R_far (p := ⟨gb286, 6, none⟩) (Kd.R_far (p := ⟨gb286, 5, none⟩) (Kd.R_far (p := ⟨gb286, 4, none⟩) (Kd.R_far (p := ⟨gb286, 3, none⟩) (Kd.R_far (p := ⟨gb286, 2, none⟩) (Kd.R_far (p := ⟨gb286, 1, none⟩) (Kd.R_far (p := ⟨gb286, 0, none⟩) (Kd.R_far (p := ⟨gb301, 8, none⟩) (Kd.R_far (p := ⟨gb301, 0, none⟩) (Kd.R_types (Kd.R_types HO299.out BK301.out (by decide)) BK286.out (by decide)) (fun _ hk => hk.1.2) (.int .i64 2)) (fun _ hk => hk.1.2) (.bool a1)) (fun _ hk => hk.2) (.int .i64 2)) (fun _ hk => hk.2) (.int .i64 t289)) (fun _ hk => hk.2) (.int .i64 t290)) (fun _ hk => hk.2) (.int .i64 t291)) (fun _ hk => hk.2) (.int .i64 t292)) (fun _ hk => hk.2) (.int .i64 t293)) (fun _ hk => hk.2) (.slice Ao15 t294.length co15)) (fun _ hk => hk.2) (.slice Ao16 t297.length co16)) (fun _ hk => hk.2) (.bool a1)) (fun _ hk => trivial)))⟩; have n2_ : Aside0 (w22.heap[gb285]? = some (.cells #[.int .i64 a0_0, .int .i64 a0_1, .int .i64 a0_2, .int .i64 a0_3, .int .i64 a0_4, .int .i64 a0_5, .slice A0_6 l0_6.length c0_6, .slice A0_7 l0_7.length c0_7, .bool a0_8] 29 (0, 0))) := ⟨(by rw [hw]; exact (by (with_reducible repeat (first | refine blk_drewN ?_ _ | refine blk_drew ?_ | refine blk_alloc ?_ _)); refine blk_far ?_ NB285_286.out _; (with_reducible repeat (first | refine blk_drewN ?_ _ | refine blk_drew ?_ | refine blk_alloc ?_ _)); refine blk_far ?_ NB285_286.out _; (with_reducible repeat (first | refine blk_drewN ?_ _ | refine blk_drew ?_ | refine blk_alloc ?_ _)); refine blk_far ?_ NB285_286.out _; (with_reducible repeat (first | refine blk_drewN ?_ _ | refine blk_drew ?_ | refine blk_alloc ?_ _)); refine blk_far ?_ NB285_286.out _; (with_reducible repeat (first | refine blk_drewN ?_ _ | refine blk_drew ?_ | refine blk_alloc ?_ _)); refine blk_far ?_ NB285_286.out _; (with_reducible repeat (first | refine blk_drewN ?_ _ | refine blk_drew ?_ | refine blk_alloc ?_ _)); refine blk_far ?_ NB285_286.out _; (with_reducible repeat (first | refine blk_drewN ?_ _ | refine blk_drew ?_ | refine blk_alloc ?_ _)); refine blk_far ?_ NB285_286.out _; (with_reducible repeat (first | refine blk_drewN ?_ _ | refine blk_drew ?_ | refine blk_alloc ?_ _)); refine blk_far ?_ NB285_286.out _; (with_reducible repeat (first | refine blk_drewN ?_ _ | refine blk_drew ?_ | refine blk_alloc ?_ _)); refine blk_far ?_ NB285_286.out _; (with_reducible repeat (first | refine blk_drewN ?_ _ | refine blk_drew ?_ | refine blk_alloc ?_ _)); refine blk_far ?_ NB285_301.out _; (with_reducible repeat (first | refine blk_drewN ?_ _ | refine blk_drew ?_ | refine blk_alloc ?_ _)); refine blk_far ?_ NB285_301.out _; (with_reducible repeat (first | refine blk_drewN ?_ _ | refine blk_drew ?_ | refine blk_alloc ?_ _)); exact BK285.out))⟩; have n3_ : Aside0 (w22.heap[gb286]? = some (.cells #[.int .i64 2, .int .i64 t289, .int .i64 t290, .int .i64 t291, .int .i64 t292, .int .i64 t293, .slice Ao15 t294.length co15, .slice Ao16 t297.length co16, .bool a1] 29 (0, 0))) := ⟨(by rw [hw]; exact (by (with_reducible repeat (first | refine blk_drewN ?_ _ | refine blk_drew ?_ | refine blk_alloc ?_ _)); refine blk_put (cs := #[.int .i64 2, .int .i64 t289, .int .i64 t290, .int .i64 t291, .int .i64 t292, .int .i64 t293, .slice Ao15 t294.length co15, .slice Ao16 t297.length co16, .bool false]) ?_ 8 _ rfl; (with_reducible repeat (first | refine blk_drewN ?_ _ | refine blk_drew ?_ | refine blk_alloc ?_ _)); refine blk_put (cs := #[.int .i64 2, .int .i64 t289, .int .i64 t290, .int .i64 t291, .int .i64 t292, .int .i64 t293, .slice Ao15 t294.length co15, .slice none 0 0, .bool false]) ?_ 7 _ rfl; (with_reducible repeat (first | refine blk_drewN ?_ _ | refine blk_drew ?_ | refine blk_alloc ?_ _)); refine blk_put (cs := #[.int .i64 2, .int .i64 t289, .int .i64 t290, .int .i64 t291, .int .i64 t292, .int .i64 t293, .slice none 0 0, .slice none 0 0, .bool false]) ?_ 6 _ rfl; (with_reducible repeat (first | refine blk_drewN ?_ _ | refine blk_drew ?_ | refine blk_alloc ?_ _)); refine blk_put (cs := #[.int .i64 2, .int .i64 t289, .int .i64 t290, .int .i64 t291, .int .i64 t292, .int .i64 0, .slice none 0 0, .slice none 0 0, .bool false]) ?_ 5 _ rfl; (with_reducible repeat (first | refine blk_drewN ?_ _ | refine blk_drew ?_ | refine blk_alloc ?_ _)); refine blk_put (cs := #[.int .i64 2, .int .i64 t289, .int .i64 t290, .int .i64 t291, .int .i64 0, .int .i64 0, .slice none 0 0, .slice none 0 0, .bool false]) ?_ 4 _ rfl; (with_reducible repeat (first | refine blk_drewN ?_ _ | refine blk_drew ?_ | refine blk_alloc ?_ _)); refine blk_put (cs := #[.int .i64 2, .int .i64 t289, .int .i64 t290, .int .i64 0, .int .i64 0, .int .i64 0, .slice none 0 0, .slice none 0 0, .bool false]) ?_ 3 _ rfl; (with_reducible repeat (first | refine blk_drewN ?_ _ | refine blk_drew ?_ | refine blk_alloc ?_ _)); refine blk_put (cs := #[.int .i64 2, .int .i64 t289, .int .i64 0, .int .i64 0, .int .i64 0, .int .i64 0, .slice none 0 0, .slice none 0 0, .bool false]) ?_ 2 _ rfl; (with_reducible repeat (first | refine blk_drewN ?_ _ | refine blk_drew ?_ | refine blk_alloc ?_ _)); refine blk_put (cs := #[.int .i64 2, .int .i64 0, .int .i64 0, .int .i64 0, .int .i64 0, .int .i64 0, .slice none 0 0, .slice none 0 0, .bool false]) ?_ 1 _ rfl; (with_reducible repeat (first | refine blk_drewN ?_ _ | refine blk_drew ?_ | refine blk_alloc ?_ _)); refine blk_put (cs := #[.int .i64 0, .int .i64 0, .int .i64 0, .int .i64 0, .int .i64 0, .int .i64 0, .slice none 0 0, .slice none 0 0, .bool false]) ?_ 0 _ rfl; (with_reducible repeat (first | refine blk_drewN ?_ _ | refine blk_drew ?_ | refine blk_alloc ?_ _)); refine blk_far ?_ NB286_301.out _; (with_reducible repeat (first | refine blk_drewN ?_ _ | refine blk_drew ?_ | refine blk_alloc ?_ _)); refine blk_far ?_ NB286_301.out _; (with_reducible repeat (first | refine blk_drewN ?_ _ | refine blk_drew ?_ | refine blk_alloc ?_ _)); exact BK286.out))⟩; have n4_ : Aside0 (w22.heap[gb301]? = some (.cells #[.int .i64 2, .int .i64 t289, .int .i64 t290, .int .i64 t291, .int .i64 t292, .int .i64 t293, .slice Ao15 t294.length co15, .slice Ao16 t297.length co16, .bool a1] 29 (0, 0))) := ⟨(by rw [hw]; exact (by (with_reducible repeat (first | refine blk_drewN ?_ _ | refine blk_drew ?_ | refine blk_alloc ?_ _)); refine blk_far ?_ NB301_286.out _; (with_reducible repeat (first | refine blk_drewN ?_ _ | refine blk_drew ?_ | refine blk_alloc ?_ _)); refine blk_far ?_ NB301_286.out _; (with_reducible repeat (first | refine blk_drewN ?_ _ | refine blk_drew ?_ | refine blk_alloc ?_ _)); refine blk_far ?_ NB301_286.out _; (with_reducible repeat (first | refine blk_drewN ?_ _ | refine blk_drew ?_ | refine blk_alloc ?_ _)); refine blk_far ?_ NB301_286.out _; (with_reducible repeat (first | refine blk_drewN ?_ _ | refine blk_drew ?_ | refine blk_alloc ?_ _)); refine blk_far ?_ NB301_286.out _; (with_reducible repeat (first | refine blk_drewN ?_ _ | refine blk_drew ?_ | refine blk_alloc ?_ _)); refine blk_far ?_ NB301_286.out _; (with_reducible repeat (first | refine blk_drewN ?_ _ | refine blk_drew ?_ | refine blk_alloc ?_ _)); refine blk_far ?_ NB301_286.out _; (with_reducible repeat (first | refine blk_drewN ?_ _ | refine blk_drew ?_ | refine blk_alloc ?_ _)); refine blk_far ?_ NB301_286.out _; (with_reducible repeat (first | refine blk_drewN ?_ _ | refine blk_drew ?_ | refine blk_alloc ?_ _)); refine blk_far ?_ NB301_286.out _; (with_reducible repeat (first | refine blk_drewN ?_ _ | refine blk_drew ?_ | refine blk_alloc ?_ _)); refine blk_put (cs := #[.int .i64 2, .int .i64 t289, .int .i64 t290, .int .i64 t291, .int .i64 t292, .int .i64 t293, .slice Ao15 t294.length co15, .slice Ao16 t297.length co16, .bool t300]) ?_ 8 _ rfl; (with_reducible repeat (first | refine blk_drewN ?_ _ | refine blk_drew ?_ | refine blk_alloc ?_ _)); refine blk_put (cs := #[.int .i64 t288, .int .i64 t289, .int .i64 t290, .int .i64 t291, .int .i64 t292, .int .i64 t293, .slice Ao15 t294.length co15, .slice Ao16 t297.length co16, .bool t300]) ?_ 0 _ rfl; (with_reducible repeat (first | refine blk_drewN ?_ _ | refine blk_drew ?_ | refine blk_alloc ?_ _)); exact BK301.out))⟩; have n5_ : Aside0 (Below w.heap.size w w22) := ⟨(by rw [hw]; exact (by repeat (first | (with_reducible first | exact HB.out | apply below_alloc | apply pw_below_drewN | apply below_drew1 | refine below_set ?_ GE285.out | refine below_set ?_ GE286.out | refine below_set ?_ GE301.out) | exact HB.out)))⟩; clear hw; clear HO296; clear HO299; clear BK285; clear BK286; clear BK301; clear HB; have HO296 := n0_; have HO299 := n1_; have BK285 := n2_; have BK286 := n3_; have BK301 := n4_; have HB := n5_; clear n0_ n1_ n2_ n3_ n4_ n5_))
     refine bodyPost_ret (results_ct rfl _ _ gb286 29 #[.int .i64 2, .int .i64 t289, .int .i64 t290, .int .i64 t291, .int .i64 t292, .int .i64 t293, .slice Ao15 t294.length co15, .slice Ao16 t297.length co16, .bool a1] (0, 0) _ rfl (kb_ BK286.out) Try.underlying29 rfl (by kernel_rfl)) rfl ?_
     exact ⟨_, _, by first | rfl | (simp [errW_none, errW_some] <;> rfl) | (simp [*, errW_none, errW_some] <;> rfl), by (with_reducible repeat (first | apply Kd.R_alloc | apply Kd.R_drewN | apply Kd.R_drew)); exact HO296.out, by (with_reducible repeat (first | apply Kd.R_alloc | apply Kd.R_drewN | apply Kd.R_drew)); exact HO299.out, by repeat (first | (with_reducible first | exact HB.out | apply below_alloc | apply pw_below_drewN | apply below_drew1 | refine below_set ?_ GE285.out | refine below_set ?_ GE286.out | refine below_set ?_ GE301.out) | exact HB.out)⟩
   · rw [if_neg c5] at H
     have c5b0 : (a0_0 == 1) = false := beq_eq_false_iff_ne.mpr c5
     have c5b1 : (a0_0 != 1) = true := bne_iff_ne.mpr c5
     simp only [Option.some.injEq, Prod.mk.injEq] at H
     obtain ⟨rfl, rfl, rfl, rfl, rfl, rfl, rfl, rfl, rfl, rfl⟩ := H
     go_enter Try.func12, Try.ntmps12
     go_wp2_with (first | ((with_reducible refine gate_dst (N := 2) rfl ?_); refine box_event ?hg (N := 2) ?hd (cs := #[.int .i64 a0_0, .int .i64 a0_1, .int .i64 a0_2, .int .i64 a0_3, .int .i64 a0_4, .int .i64 a0_5, .slice A0_6 l0_6.length c0_6, .slice A0_7 l0_7.length c0_7, .bool a0_8]) (t := 29) ?hr ?_; (case hd => rfl); (case hg => rfl); (case hr => first | (go_simp; done) | (go_simp; rfl)); intro gb285 hg w23 hbox hb; have n0_ := Aside0.mk (below_step lb_ hb); have n1_ := Aside0.mk (hbox); have n2_ := Aside0.mk ((by rw [hg]; exact (below_size lb_) : w.heap.size ≤ gb285)); have n3_ := Aside0.mk ((by rw [hg]; exact (below_size lb_) : w.heap.size ≤ gb285)); clear HB; have HB := n0_; have BK285 := n1_; have GW285 := n2_; have GE285 := n3_; clear n0_ n1_ n2_ n3_; clear hb hbox hg) | ((with_reducible refine gate_dst (N := 4) rfl ?_); refine box_event ?hg (N := 4) ?hd (cs := #[.int .i64 0, .int .i64 0, .int .i64 0, .int .i64 0, .int .i64 0, .int .i64 0, .slice none 0 0, .slice none 0 0, .bool false]) (t := 29) ?hr ?_; (case hd => rfl); (case hg => rfl); (case hr => first | (go_simp; done) | (go_simp; rfl)); intro gb286 hg w24 hbox hb; have n0_ := Aside0.mk (blk_below (kb_ BK285.out) hb); have n1_ := Aside0.mk (below_step (by repeat (first | (with_reducible first | exact HB.out | apply below_alloc | apply pw_below_drewN | apply below_drew1 | refine below_set ?_ GE285.out) | exact HB.out)) hb); have n2_ := Aside0.mk (hbox); have n3_ := Aside0.mk ((by rw [hg]; exact (below_size (by repeat (first | (with_reducible first | exact HB.out | apply below_alloc | apply pw_below_drewN | apply below_drew1 | refine below_set ?_ GE285.out) | exact HB.out))) : w.heap.size ≤ gb286)); have n4_ := Aside0.mk ((by rw [hg]; exact (below_size (by repeat (first | (with_reducible first | exact HB.out | apply below_alloc | apply pw_below_drewN | apply below_drew1 | refine below_set ?_ GE285.out) | exact HB.out))) : w.heap.size ≤ gb286)); have n5_ := Aside0.mk ((by rw [hg]; exact Nat.ne_of_lt (blk_lt (kb_ BK285.out)) : gb285 ≠ gb286)); have n6_ := Aside0.mk ((by rw [hg]; exact Nat.ne_of_gt (blk_lt (kb_ BK285.out)) : gb286 ≠ gb285)); clear BK285; clear HB; have BK285 := n0_; have HB := n1_; have BK286 := n2_; have GW286 := n3_; have GE286 := n4_; have NB285_286 := n5_; have NB286_285 := n6_; clear n0_ n1_ n2_ n3_ n4_ n5_ n6_; clear hb hbox hg) | ((with_reducible refine gate_dst (N := 7) rfl ?_); refine blk_load_event ?lg (N := 7) ?ld (t := 29) (x := ?lxxz25) ?lo (g := gb285) ?lx (cs := _) BK285.out ?lD ?lt ?_; (case lg => rfl); (case ld => rfl); (case lo => rfl); (case lx => first | rfl | (go_simp; done) | (go_simp; rfl)); (case lD => exact ⟨_, Try.underlying29, rfl⟩); (case lt => kernel_rfl)) | ((with_reducible refine gate_callee (f := 14) rfl ?_); refine goesL_ (some 8) rfl rfl Try.func14 (by kernel_rfl) rfl #[.agg #[.int .i64 a0_0, .int .i64 a0_1, .int .i64 a0_2, .int .i64 a0_3, .int .i64 a0_4, .int .i64 a0_5, .slice A0_6 l0_6.length c0_6, .slice A0_7 l0_7.length c0_7, .bool a0_8]] rfl (by (try simp only [List.map_toArray, List.map_cons, List.map_nil]); first | done | rfl | (simp only [List.length_drop, List.length_take]; rfl)) ?_; (with_reducible refine (command_Right.calls k a0_0 a0_1 a0_2 a0_3 a0_4 a0_5 _ _ l0_6 _ _ l0_7 a0_8 true _ ?side1 ?side2 ?side3 ?side4 A3.out).mono ?_); (case side1 => exact kc_ (Kd.C_below HR0_6.out HB.out)); (case side2 => exact HC0_6.out); (case side3 => exact kc_ (Kd.C_below HR0_7.out HB.out)); (case side4 => exact HC0_7.out); rintro e w26 ⟨rfl, hb⟩; refine ⟨_, rfl, ?_⟩; have n0_ := Aside0.mk (blk_below (kb_ BK285.out) hb); have n1_ := Aside0.mk (blk_below (kb_ BK286.out) hb); have n2_ := Aside0.mk (below_step (by repeat (first | (with_reducible first | exact HB.out | apply below_alloc | apply pw_below_drewN | apply below_drew1 | refine below_set ?_ GE285.out | refine below_set ?_ GE286.out) | exact HB.out)) hb); clear BK285; clear BK286; clear HB; have BK285 := n0_; have BK286 := n1_; have HB := n2_; clear n0_ n1_ n2_; (try clear hb); (try clear hb2); (try clear hk); (try clear hi); have hnb27 := NB285_286.out; have hnc27 := NB286_285.out; refine blk9_ BK285.out fun hcz28_0 hcz28_1 hcz28_2 hcz28_3 hcz28_4 hcz28_5 hcz28_6 hcz28_7 hcz28_8 hfz28_0 hfz28_1 hfz28_2 hfz28_3 hfz28_4 hfz28_5 hfz28_6 hfz28_7 hfz28_8 => ?_; refine blk9_ BK286.out fun hcz29_0 hcz29_1 hcz29_2 hcz29_3 hcz29_4 hcz29_5 hcz29_6 hcz29_7 hcz29_8 hfz29_0 hfz29_1 hfz29_2 hfz29_3 hfz29_4 hfz29_5 hfz29_6 hfz29_7 hfz29_8 => ?_) | ((with_reducible refine gate_store (t := 29) (p := 4) rfl ?_); refine store_event (t := 29) (p := 4) (v := ?vo_w30) (w1 := (((((((((w26.setCell ⟨gb286, 0, none⟩ (.int .i64 0)).setCell ⟨gb286, 1, none⟩ (.int .i64 0)).setCell ⟨gb286, 2, none⟩ (.int .i64 0)).setCell ⟨gb286, 3, none⟩ (.int .i64 0)).setCell ⟨gb286, 4, none⟩ (.int .i64 0)).setCell ⟨gb286, 5, none⟩ (.int .i64 0)).setCell ⟨gb286, 6, none⟩ (.slice none 0 0)).setCell ⟨gb286, 7, none⟩ (.slice none 0 0)).setCell ⟨gb286, 8, none⟩ (.bool false))) ?hg ?ho ?hn ?hr ?_; (case ho => rfl); (case hg => rfl); (case hn => rfl); (case hr => first | (go_simp; done) | (go_simp; rfl)); intro w30 hw; have n0_ : Aside0 (w30.heap[gb285]? = some (.cells #[.int .i64 a0_0, .int .i64 a0_1, .int .i64 a0_2, .int .i64 a0_3, .int .i64 a0_4, .int .i64 a0_5, .slice A0_6 l0_6.length c0_6, .slice A0_7 l0_7.length c0_7, .bool a0_8] 29 (0, 0))) := ⟨(by rw [hw]; exact (by (with_reducible repeat (first | refine blk_drewN ?_ _ | refine blk_drew ?_ | refine blk_alloc ?_ _)); refine blk_far ?_ NB285_286.out _; (with_reducible repeat (first | refine blk_drewN ?_ _ | refine blk_drew ?_ | refine blk_alloc ?_ _)); refine blk_far ?_ NB285_286.out _; (with_reducible repeat (first | refine blk_drewN ?_ _ | refine blk_drew ?_ | refine blk_alloc ?_ _)); refine blk_far ?_ NB285_286.out _; (with_reducible repeat (first | refine blk_drewN ?_ _ | refine blk_drew ?_ | refine blk_alloc ?_ _)); refine blk_far ?_ NB285_286.out _; (with_reducible repeat (first | refine blk_drewN ?_ _ | refine blk_drew ?_ | refine blk_alloc ?_ _)); refine blk_far ?_ NB285_286.out _; (with_reducible repeat (first | refine blk_drewN ?_ _ | refine blk_drew ?_ | refine blk_alloc ?_ _)); refine blk_far ?_ NB285_286.out _; (with_reducible repeat (first | refine blk_drewN ?_ _ | refine blk_drew ?_ | refine blk_alloc ?_ _)); refine blk_far ?_ NB285_286.out _; (with_reducible repeat (first | refine blk_drewN ?_ _ | refine blk_drew ?_ | refine blk_alloc ?_ _)); refine blk_far ?_ NB285_286.out _; (with_reducible repeat (first | refine blk_drewN ?_ _ | refine blk_drew ?_ | refine blk_alloc ?_ _)); refine blk_far ?_ NB285_286.out _; (with_reducible repeat (first | refine blk_drewN ?_ _ | refine blk_drew ?_ | refine blk_alloc ?_ _)); exact BK285.out))⟩; have n1_ : Aside0 (w30.heap[gb286]? = some (.cells #[.int .i64 0, .int .i64 0, .int .i64 0, .int .i64 0, .int .i64 0, .int .i64 0, .slice none 0 0, .slice none 0 0, .bool false] 29 (0, 0))) := ⟨(by rw [hw]; exact (by (with_reducible repeat (first | refine blk_drewN ?_ _ | refine blk_drew ?_ | refine blk_alloc ?_ _)); refine blk_put (cs := #[.int .i64 0, .int .i64 0, .int .i64 0, .int .i64 0, .int .i64 0, .int .i64 0, .slice none 0 0, .slice none 0 0, .bool false]) ?_ 8 _ rfl; (with_reducible repeat (first | refine blk_drewN ?_ _ | refine blk_drew ?_ | refine blk_alloc ?_ _)); refine blk_put (cs := #[.int .i64 0, .int .i64 0, .int .i64 0, .int .i64 0, .int .i64 0, .int .i64 0, .slice none 0 0, .slice none 0 0, .bool false]) ?_ 7 _ rfl; (with_reducible repeat (first | refine blk_drewN ?_ _ | refine blk_drew ?_ | refine blk_alloc ?_ _)); refine blk_put (cs := #[.int .i64 0, .int .i64 0, .int .i64 0, .int .i64 0, .int .i64 0, .int .i64 0, .slice none 0 0, .slice none 0 0, .bool false]) ?_ 6 _ rfl; (with_reducible repeat (first | refine blk_drewN ?_ _ | refine blk_drew ?_ | refine blk_alloc ?_ _)); refine blk_put (cs := #[.int .i64 0, .int .i64 0, .int .i64 0, .int .i64 0, .int .i64 0, .int .i64 0, .slice none 0 0, .slice none 0 0, .bool false]) ?_ 5 _ rfl; (with_reducible repeat (first | refine blk_drewN ?_ _ | refine blk_drew ?_ | refine blk_alloc ?_ _)); refine blk_put (cs := #[.int .i64 0, .int .i64 0, .int .i64 0, .int .i64 0, .int .i64 0, .int .i64 0, .slice none 0 0, .slice none 0 0, .bool false]) ?_ 4 _ rfl; (with_reducible repeat (first | refine blk_drewN ?_ _ | refine blk_drew ?_ | refine blk_alloc ?_ _)); refine blk_put (cs := #[.int .i64 0, .int .i64 0, .int .i64 0, .int .i64 0, .int .i64 0, .int .i64 0, .slice none 0 0, .slice none 0 0, .bool false]) ?_ 3 _ rfl; (with_reducible repeat (first | refine blk_drewN ?_ _ | refine blk_drew ?_ | refine blk_alloc ?_ _)); refine blk_put (cs := #[.int .i64 0, .int .i64 0, .int .i64 0, .int .i64 0, .int .i64 0, .int .i64 0, .slice none 0 0, .slice none 0 0, .bool false]) ?_ 2 _ rfl; (with_reducible repeat (first | refine blk_drewN ?_ _ | refine blk_drew ?_ | refine blk_alloc ?_ _)); refine blk_put (cs := #[.int .i64 0, .int .i64 0, .int .i64 0, .int .i64 0, .int .i64 0, .int .i64 0, .slice none 0 0, .slice none 0 0, .bool false]) ?_ 1 _ rfl; (with_reducible repeat (first | refine blk_drewN ?_ _ | refine blk_drew ?_ | refine blk_alloc ?_ _)); refine blk_put (cs := #[.int .i64 0, .int .i64 0, .int .i64 0, .int .i64 0, .int .i64 0, .int .i64 0, .slice none 0 0, .slice none 0 0, .bool false]) ?_ 0 _ rfl; (with_reducible repeat (first | refine blk_drewN ?_ _ | refine blk_drew ?_ | refine blk_alloc ?_ _)); exact BK286.out))⟩; have n2_ : Aside0 (Below w.heap.size w w30) := ⟨(by rw [hw]; exact (by repeat (first | (with_reducible first | exact HB.out | apply below_alloc | apply pw_below_drewN | apply below_drew1 | refine below_set ?_ GE285.out | refine below_set ?_ GE286.out) | exact HB.out)))⟩; clear hw; clear BK285; clear BK286; clear HB; have BK285 := n0_; have BK286 := n1_; have HB := n2_; clear n0_ n1_ n2_))
     refine bodyPost_ret (results_ct rfl _ _ gb286 29 #[.int .i64 0, .int .i64 0, .int .i64 0, .int .i64 0, .int .i64 0, .int .i64 0, .slice none 0 0, .slice none 0 0, .bool false] (0, 0) _ rfl (kb_ BK286.out) Try.underlying29 rfl (by kernel_rfl)) rfl ?_
     exact ⟨_, _, by first | rfl | (simp [errW_none, errW_some] <;> rfl) | (simp [*, errW_none, errW_some] <;> rfl), by first | exact Kd.R_nil _ _ _ _ _ | exact Kd.N_nil _ _ _ _ _ | exact Kd.V_nil _ _ _ _ _ | exact Kd.Q_nil _ _ _ _ _ | exact Kd.S_nil _ _ _ _ _, by first | exact Kd.R_nil _ _ _ _ _ | exact Kd.N_nil _ _ _ _ _ | exact Kd.V_nil _ _ _ _ _ | exact Kd.Q_nil _ _ _ _ _ | exact Kd.S_nil _ _ _ _ _, by repeat (first | (with_reducible first | exact HB.out | apply below_alloc | apply pw_below_drewN | apply below_drew1 | refine below_set ?_ GE285.out | refine below_set ?_ GE286.out) | exact HB.out)⟩
 · replace c4 := Bool.eq_false_iff.mpr c4
   subst c4
   rw [if_neg (show ¬ (false = true) by decide)] at H
   simp only [Option.some.injEq, Prod.mk.injEq] at H
   obtain ⟨rfl, rfl, rfl, rfl, rfl, rfl, rfl, rfl, rfl, rfl⟩ := H
   go_enter Try.func12, Try.ntmps12
   go_wp2_with (first | ((with_reducible refine gate_dst (N := 2) rfl ?_); refine box_event ?hg (N := 2) ?hd (cs := #[.int .i64 a0_0, .int .i64 a0_1, .int .i64 a0_2, .int .i64 a0_3, .int .i64 a0_4, .int .i64 a0_5, .slice A0_6 l0_6.length c0_6, .slice A0_7 l0_7.length c0_7, .bool a0_8]) (t := 29) ?hr ?_; (case hd => rfl); (case hg => rfl); (case hr => first | (go_simp; done) | (go_simp; rfl)); intro gb285 hg w31 hbox hb; have n0_ := Aside0.mk (below_step lb_ hb); have n1_ := Aside0.mk (hbox); have n2_ := Aside0.mk ((by rw [hg]; exact (below_size lb_) : w.heap.size ≤ gb285)); have n3_ := Aside0.mk ((by rw [hg]; exact (below_size lb_) : w.heap.size ≤ gb285)); clear HB; have HB := n0_; have BK285 := n1_; have GW285 := n2_; have GE285 := n3_; clear n0_ n1_ n2_ n3_; clear hb hbox hg) | ((with_reducible refine gate_dst (N := 4) rfl ?_); refine box_event ?hg (N := 4) ?hd (cs := #[.int .i64 0, .int .i64 0, .int .i64 0, .int .i64 0, .int .i64 0, .int .i64 0, .slice none 0 0, .slice none 0 0, .bool false]) (t := 29) ?hr ?_; (case hd => rfl); (case hg => rfl); (case hr => first | (go_simp; done) | (go_simp; rfl)); intro gb286 hg w32 hbox hb; have n0_ := Aside0.mk (blk_below (kb_ BK285.out) hb); have n1_ := Aside0.mk (below_step (by repeat (first | (with_reducible first | exact HB.out | apply below_alloc | apply pw_below_drewN | apply below_drew1 | refine below_set ?_ GE285.out) | exact HB.out)) hb); have n2_ := Aside0.mk (hbox); have n3_ := Aside0.mk ((by rw [hg]; exact (below_size (by repeat (first | (with_reducible first | exact HB.out | apply below_alloc | apply pw_below_drewN | apply below_drew1 | refine below_set ?_ GE285.out) | exact HB.out))) : w.heap.size ≤ gb286)); have n4_ := Aside0.mk ((by rw [hg]; exact (below_size (by repeat (first | (with_reducible first | exact HB.out | apply below_alloc | apply pw_below_drewN | apply below_drew1 | refine below_set ?_ GE285.out) | exact HB.out))) : w.heap.size ≤ gb286)); have n5_ := Aside0.mk ((by rw [hg]; exact Nat.ne_of_lt (blk_lt (kb_ BK285.out)) : gb285 ≠ gb286)); have n6_ := Aside0.mk ((by rw [hg]; exact Nat.ne_of_gt (blk_lt (kb_ BK285.out)) : gb286 ≠ gb285)); clear BK285; clear HB; have BK285 := n0_; have HB := n1_; have BK286 := n2_; have GW286 := n3_; have GE286 := n4_; have NB285_286 := n5_; have NB286_285 := n6_; clear n0_ n1_ n2_ n3_ n4_ n5_ n6_; clear hb hbox hg) | ((with_reducible refine gate_dst (N := 7) rfl ?_); refine blk_load_event ?lg (N := 7) ?ld (t := 29) (x := ?lxxz33) ?lo (g := gb285) ?lx (cs := _) BK285.out ?lD ?lt ?_; (case lg => rfl); (case ld => rfl); (case lo => rfl); (case lx => first | rfl | (go_simp; done) | (go_simp; rfl)); (case lD => exact ⟨_, Try.underlying29, rfl⟩); (case lt => kernel_rfl)) | ((with_reducible refine gate_callee (f := 14) rfl ?_); refine goesL_ (some 8) rfl rfl Try.func14 (by kernel_rfl) rfl #[.agg #[.int .i64 a0_0, .int .i64 a0_1, .int .i64 a0_2, .int .i64 a0_3, .int .i64 a0_4, .int .i64 a0_5, .slice A0_6 l0_6.length c0_6, .slice A0_7 l0_7.length c0_7, .bool a0_8]] rfl (by (try simp only [List.map_toArray, List.map_cons, List.map_nil]); first | done | rfl | (simp only [List.length_drop, List.length_take]; rfl)) ?_; (with_reducible refine (command_Right.calls k a0_0 a0_1 a0_2 a0_3 a0_4 a0_5 _ _ l0_6 _ _ l0_7 a0_8 false _ ?side1 ?side2 ?side3 ?side4 A3.out).mono ?_); (case side1 => exact kc_ (Kd.C_below HR0_6.out HB.out)); (case side2 => exact HC0_6.out); (case side3 => exact kc_ (Kd.C_below HR0_7.out HB.out)); (case side4 => exact HC0_7.out); rintro e w34 ⟨rfl, hb⟩; refine ⟨_, rfl, ?_⟩; have n0_ := Aside0.mk (blk_below (kb_ BK285.out) hb); have n1_ := Aside0.mk (blk_below (kb_ BK286.out) hb); have n2_ := Aside0.mk (below_step (by repeat (first | (with_reducible first | exact HB.out | apply below_alloc | apply pw_below_drewN | apply below_drew1 | refine below_set ?_ GE285.out | refine below_set ?_ GE286.out) | exact HB.out)) hb); clear BK285; clear BK286; clear HB; have BK285 := n0_; have BK286 := n1_; have HB := n2_; clear n0_ n1_ n2_; (try clear hb); (try clear hb2); (try clear hk); (try clear hi); have hnb35 := NB286_285.out; have hnc35 := NB285_286.out; refine blk9_ BK286.out fun hcz36_0 hcz36_1 hcz36_2 hcz36_3 hcz36_4 hcz36_5 hcz36_6 hcz36_7 hcz36_8 hfz36_0 hfz36_1 hfz36_2 hfz36_3 hfz36_4 hfz36_5 hfz36_6 hfz36_7 hfz36_8 => ?_) | ((with_reducible refine gate_store (t := 29) (p := 4) rfl ?_); refine store_event (t := 29) (p := 4) (v := ?vo_w37) (w1 := (((((((((w34.setCell ⟨gb286, 0, none⟩ (.int .i64 0)).setCell ⟨gb286, 1, none⟩ (.int .i64 0)).setCell ⟨gb286, 2, none⟩ (.int .i64 0)).setCell ⟨gb286, 3, none⟩ (.int .i64 0)).setCell ⟨gb286, 4, none⟩ (.int .i64 0)).setCell ⟨gb286, 5, none⟩ (.int .i64 0)).setCell ⟨gb286, 6, none⟩ (.slice none 0 0)).setCell ⟨gb286, 7, none⟩ (.slice none 0 0)).setCell ⟨gb286, 8, none⟩ (.bool false))) ?hg ?ho ?hn ?hr ?_; (case ho => rfl); (case hg => rfl); (case hn => rfl); (case hr => first | (go_simp; done) | (go_simp; rfl)); intro w37 hw; have n0_ : Aside0 (w37.heap[gb285]? = some (.cells #[.int .i64 a0_0, .int .i64 a0_1, .int .i64 a0_2, .int .i64 a0_3, .int .i64 a0_4, .int .i64 a0_5, .slice A0_6 l0_6.length c0_6, .slice A0_7 l0_7.length c0_7, .bool a0_8] 29 (0, 0))) := ⟨(by rw [hw]; exact (by (with_reducible repeat (first | refine blk_drewN ?_ _ | refine blk_drew ?_ | refine blk_alloc ?_ _)); refine blk_far ?_ NB285_286.out _; (with_reducible repeat (first | refine blk_drewN ?_ _ | refine blk_drew ?_ | refine blk_alloc ?_ _)); refine blk_far ?_ NB285_286.out _; (with_reducible repeat (first | refine blk_drewN ?_ _ | refine blk_drew ?_ | refine blk_alloc ?_ _)); refine blk_far ?_ NB285_286.out _; (with_reducible repeat (first | refine blk_drewN ?_ _ | refine blk_drew ?_ | refine blk_alloc ?_ _)); refine blk_far ?_ NB285_286.out _; (with_reducible repeat (first | refine blk_drewN ?_ _ | refine blk_drew ?_ | refine blk_alloc ?_ _)); refine blk_far ?_ NB285_286.out _; (with_reducible repeat (first | refine blk_drewN ?_ _ | refine blk_drew ?_ | refine blk_alloc ?_ _)); refine blk_far ?_ NB285_286.out _; (with_reducible repeat (first | refine blk_drewN ?_ _ | refine blk_drew ?_ | refine blk_alloc ?_ _)); refine blk_far ?_ NB285_286.out _; (with_reducible repeat (first | refine blk_drewN ?_ _ | refine blk_drew ?_ | refine blk_alloc ?_ _)); refine blk_far ?_ NB285_286.out _; (with_reducible repeat (first | refine blk_drewN ?_ _ | refine blk_drew ?_ | refine blk_alloc ?_ _)); refine blk_far ?_ NB285_286.out _; (with_reducible repeat (first | refine blk_drewN ?_ _ | refine blk_drew ?_ | refine blk_alloc ?_ _)); exact BK285.out))⟩; have n1_ : Aside0 (w37.heap[gb286]? = some (.cells #[.int .i64 0, .int .i64 0, .int .i64 0, .int .i64 0, .int .i64 0, .int .i64 0, .slice none 0 0, .slice none 0 0, .bool false] 29 (0, 0))) := ⟨(by rw [hw]; exact (by (with_reducible repeat (first | refine blk_drewN ?_ _ | refine blk_drew ?_ | refine blk_alloc ?_ _)); refine blk_put (cs := #[.int .i64 0, .int .i64 0, .int .i64 0, .int .i64 0, .int .i64 0, .int .i64 0, .slice none 0 0, .slice none 0 0, .bool false]) ?_ 8 _ rfl; (with_reducible repeat (first | refine blk_drewN ?_ _ | refine blk_drew ?_ | refine blk_alloc ?_ _)); refine blk_put (cs := #[.int .i64 0, .int .i64 0, .int .i64 0, .int .i64 0, .int .i64 0, .int .i64 0, .slice none 0 0, .slice none 0 0, .bool false]) ?_ 7 _ rfl; (with_reducible repeat (first | refine blk_drewN ?_ _ | refine blk_drew ?_ | refine blk_alloc ?_ _)); refine blk_put (cs := #[.int .i64 0, .int .i64 0, .int .i64 0, .int .i64 0, .int .i64 0, .int .i64 0, .slice none 0 0, .slice none 0 0, .bool false]) ?_ 6 _ rfl; (with_reducible repeat (first | refine blk_drewN ?_ _ | refine blk_drew ?_ | refine blk_alloc ?_ _)); refine blk_put (cs := #[.int .i64 0, .int .i64 0, .int .i64 0, .int .i64 0, .int .i64 0, .int .i64 0, .slice none 0 0, .slice none 0 0, .bool false]) ?_ 5 _ rfl; (with_reducible repeat (first | refine blk_drewN ?_ _ | refine blk_drew ?_ | refine blk_alloc ?_ _)); refine blk_put (cs := #[.int .i64 0, .int .i64 0, .int .i64 0, .int .i64 0, .int .i64 0, .int .i64 0, .slice none 0 0, .slice none 0 0, .bool false]) ?_ 4 _ rfl; (with_reducible repeat (first | refine blk_drewN ?_ _ | refine blk_drew ?_ | refine blk_alloc ?_ _)); refine blk_put (cs := #[.int .i64 0, .int .i64 0, .int .i64 0, .int .i64 0, .int .i64 0, .int .i64 0, .slice none 0 0, .slice none 0 0, .bool false]) ?_ 3 _ rfl; (with_reducible repeat (first | refine blk_drewN ?_ _ | refine blk_drew ?_ | refine blk_alloc ?_ _)); refine blk_put (cs := #[.int .i64 0, .int .i64 0, .int .i64 0, .int .i64 0, .int .i64 0, .int .i64 0, .slice none 0 0, .slice none 0 0, .bool false]) ?_ 2 _ rfl; (with_reducible repeat (first | refine blk_drewN ?_ _ | refine blk_drew ?_ | refine blk_alloc ?_ _)); refine blk_put (cs := #[.int .i64 0, .int .i64 0, .int .i64 0, .int .i64 0, .int .i64 0, .int .i64 0, .slice none 0 0, .slice none 0 0, .bool false]) ?_ 1 _ rfl; (with_reducible repeat (first | refine blk_drewN ?_ _ | refine blk_drew ?_ | refine blk_alloc ?_ _)); refine blk_put (cs := #[.int .i64 0, .int .i64 0, .int .i64 0, .int .i64 0, .int .i64 0, .int .i64 0, .slice none 0 0, .slice none 0 0, .bool false]) ?_ 0 _ rfl; (with_reducible repeat (first | refine blk_drewN ?_ _ | refine blk_drew ?_ | refine blk_alloc ?_ _)); exact BK286.out))⟩; have n2_ : Aside0 (Below w.heap.size w w37) := ⟨(by rw [hw]; exact (by repeat (first | (with_reducible first | exact HB.out | apply below_alloc | apply pw_below_drewN | apply below_drew1 | refine below_set ?_ GE285.out | refine below_set ?_ GE286.out) | exact HB.out)))⟩; clear hw; clear BK285; clear BK286; clear HB; have BK285 := n0_; have BK286 := n1_; have HB := n2_; clear n0_ n1_ n2_))
   refine bodyPost_ret (results_ct rfl _ _ gb286 29 #[.int .i64 0, .int .i64 0, .int .i64 0, .int .i64 0, .int .i64 0, .int .i64 0, .slice none 0 0, .slice none 0 0, .bool false] (0, 0) _ rfl (kb_ BK286.out) Try.underlying29 rfl (by kernel_rfl)) rfl ?_
   exact ⟨_, _, by first | rfl | (simp [errW_none, errW_some] <;> rfl) | (simp [*, errW_none, errW_some] <;> rfl), by first | exact Kd.R_nil _ _ _ _ _ | exact Kd.N_nil _ _ _ _ _ | exact Kd.V_nil _ _ _ _ _ | exact Kd.Q_nil _ _ _ _ _ | exact Kd.S_nil _ _ _ _ _, by first | exact Kd.R_nil _ _ _ _ _ | exact Kd.N_nil _ _ _ _ _ | exact Kd.V_nil _ _ _ _ _ | exact Kd.Q_nil _ _ _ _ _ | exact Kd.S_nil _ _ _ _ _, by repeat (first | (with_reducible first | exact HB.out | apply below_alloc | apply pw_below_drewN | apply below_drew1 | refine below_set ?_ GE285.out | refine below_set ?_ GE286.out) | exact HB.out)⟩
end Go.Proofs.Ytnjeeedndnfglaa.X
end
