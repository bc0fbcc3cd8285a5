/- What the claim WHO leans on: texts joined by bundle.py, a program of ours; the words cut down to what is used. -/
import Derived.Test.YtnjeeedndnfglaaBWHO3
import Derived.Lib.RuneCountTail
import Derived.Lib.TrimU
import Derived.Lib.OthersKept
section
namespace Go.Proofs.Ytnjeeedndnfglaa.X
open Go.RowKit Go.Proofs.YtnjeeedndnfglaaW.PrintWords Go.Proofs.YtnjeeedndnfglaaW.PrintLast Go.Proofs.YtnjeeedndnfglaaW.PrintMore
attribute [local go_sem] max2_int min2_int max_two min_two max_three min_three max_four min_four   -- for this text's walks alone
set_option linter.unusedVariables false
set_option linter.unusedSimpArgs false
/-! ### althinglaw05_some: function 23 -/
def althinglaw05_some.f  : Option (Int × Int × Int × Int × Int × Int × (List (S38)) × (List (S40)) × Bool) := some (1, 0, 1, 1, 0, 1, (([(⟨(⟨#[97]⟩ : ByteArray), (⟨0, 0⟩ : S25)⟩ : S38)] : List (S38))), (([(⟨(⟨#[98]⟩ : ByteArray), (⟨#[49]⟩ : ByteArray)⟩ : S40)] : List (S40))), false)
set_option maxHeartbeats 8000000 in
set_option maxRecDepth 100000 in
theorem althinglaw05_some.calls  (r1 : Int) (r2 : Int) (r3 : Int) (r4 : Int) (r5 : Int) (r6 : Int) (r7 : List (S38)) (r8 : List (S40)) (r9 : Bool) (w : World) (h : althinglaw05_some.f  = some (r1, r2, r3, r4, r5, r6, r7, r8, r9)) :
 Calls Try.prog 23 #[] w fun e w' => ∃ v6_ v7_ : Value, e = .returned (.agg #[.int .i64 r1, .int .i64 r2, .int .i64 r3, .int .i64 r4, .int .i64 r5, .int .i64 r6, v6_, v7_, .bool r9]) ∧ Kd.R k38 38 w' w.heap.size (fun _ => True) v6_ r7 ∧ Kd.R k40 40 w' w.heap.size (fun _ => True) v7_ r8 ∧ Below w.heap.size w w' := by
 have hu29 := Try.underlying29
 have hu23 := Try.underlying23
 have hu25 := Try.underlying25
 have hu38 := Try.underlying38
 have hu40 := Try.underlying40
 have HB := Aside0.mk (Below.refl w.heap.size w)
 have H : (some (1, 0, 1, 1, 0, 1, (([(⟨(⟨#[97]⟩ : ByteArray), (⟨0, 0⟩ : S25)⟩ : S38)] : List (S38))), (([(⟨(⟨#[98]⟩ : ByteArray), (⟨#[49]⟩ : ByteArray)⟩ : S40)] : List (S40))), false)) = some (r1, r2, r3, r4, r5, r6, r7, r8, r9) := h
 clear h
 obtain ⟨y175, hy175⟩ : ∃ y_ : List (S38), y_ = (([(⟨(⟨#[97]⟩ : ByteArray), (⟨0, 0⟩ : S25)⟩ : S38)] : List (S38))) := ⟨_, rfl⟩
 replace H : (some (1, 0, 1, 1, 0, 1, y175, (([(⟨(⟨#[98]⟩ : ByteArray), (⟨#[49]⟩ : ByteArray)⟩ : S40)] : List (S40))), false)) = some (r1, r2, r3, r4, r5, r6, r7, r8, r9) := by first | (rw [hy175]; with_reducible exact H) | (have H2_ := (Option.bind_some _ _).symm.trans H; rw [hy175]; with_reducible exact H2_) | (have H2_ := (Option.bind_some _ _).symm.trans H; with_reducible exact H2_) | with_reducible exact H | (rw [hy175]; exact H) | exact H
 have Ny175 := Aside0.mk hy175
 clear hy175
 obtain ⟨y178, hy178⟩ : ∃ y_ : List (S40), y_ = (([(⟨(⟨#[98]⟩ : ByteArray), (⟨#[49]⟩ : ByteArray)⟩ : S40)] : List (S40))) := ⟨_, rfl⟩
 replace H : (some (1, 0, 1, 1, 0, 1, y175, y178, false)) = some (r1, r2, r3, r4, r5, r6, r7, r8, r9) := by first | (rw [hy178]; with_reducible exact H) | (have H2_ := (Option.bind_some _ _).symm.trans H; rw [hy178]; with_reducible exact H2_) | (have H2_ := (Option.bind_some _ _).symm.trans H; with_reducible exact H2_) | with_reducible exact H | (rw [hy178]; exact H) | exact H
 have Ny178 := Aside0.mk hy178
 clear hy178
 simp only [Option.some.injEq, Prod.mk.injEq] at H
 obtain ⟨rfl, rfl, rfl, rfl, rfl, rfl, rfl, rfl, rfl⟩ := H
 go_enter Try.func23, Try.ntmps23
 go_wp2_with (first | ((with_reducible refine gate_dst (N := 0) rfl ?_); refine box_event ?hg (N := 0) ?hd (cs := #[.int .i64 0, .int .i64 0, .int .i64 0, .int .i64 0, .int .i64 0, .int .i64 0, .slice none 0 0, .slice none 0 0, .bool false]) (t := 29) ?hr ?_; (case hd => rfl); (case hg => rfl); (case hr => first | (go_simp; done) | (go_simp; rfl)); intro gb174 hg w1 hbox hb; have n0_ := Aside0.mk (below_step lb_ hb); have n1_ := Aside0.mk (hbox); have n2_ := Aside0.mk ((by rw [hg]; exact (below_size lb_) : w.heap.size ≤ gb174)); have n3_ := Aside0.mk ((by rw [hg]; exact (below_size lb_) : w.heap.size ≤ gb174)); clear HB; have HB := n0_; have BK174 := n1_; have GW174 := n2_; have GE174 := n3_; clear n0_ n1_ n2_ n3_; clear hb hbox hg) | ((with_reducible refine gate_dst (N := 4) rfl ?_); refine Kd.R_lit k38 _ 38 ?hg (N := 4) ?hd (xs := ([(⟨(⟨#[97]⟩ : ByteArray), (⟨0, 0⟩ : S25)⟩ : S38)] : List (S38))) (inner := [.string (⟨#[97]⟩ : ByteArray), .int .i64 0, .int .i64 0]) (ok := fun _ => True) (okp := fun _ => True) ?hr ?hp (fun _ hk => hk) trivial (Below.refl _ _) (Nat.le_refl _) (by simp) ?_; (case hd => rfl); (case hg => rfl); (case hr => first | (go_simp; done) | (go_simp; rfl)); (case hp => exact (Reps.c3 (show Kd.M k38 _ _ _ (⟨(⟨#[97]⟩ : ByteArray), (⟨0, 0⟩ : S25)⟩ : S38) [.string (⟨#[97]⟩ : ByteArray), .int .i64 0, .int .i64 0] from (k38_mkM _ _ _ (⟨(⟨#[97]⟩ : ByteArray), (⟨0, 0⟩ : S25)⟩ : S38) )) (Reps.none _ _))); intro v176 w2 ho3 hb hg_ hnew_; clear hg_ hnew_; (first | rw [← Ny175.out] at ho3 | (simp only [Int.reduceToNat] at ho3; rw [← Ny175.out] at ho3)); have n0_ := Aside0.mk (Kd.R_lower ho3 (below_size (by repeat (first | (with_reducible first | exact HB.out | apply below_alloc | apply pw_below_drewN | apply below_drew1 | refine below_set ?_ GE174.out) | exact HB.out)))); have n1_ := Aside0.mk (blk_below (kb_ BK174.out) hb); have n2_ := Aside0.mk (below_step (by repeat (first | (with_reducible first | exact HB.out | apply below_alloc | apply pw_below_drewN | apply below_drew1 | refine below_set ?_ GE174.out) | exact HB.out)) hb); clear BK174; clear HB; have HO177 := n0_; have BK174 := n1_; have HB := n2_; clear n0_ n1_ n2_; clear hb ho3) | ((with_reducible refine gate_dst (N := 6) rfl ?_); refine Kd.R_lit k40 _ 40 ?hg (N := 6) ?hd (xs := ([(⟨(⟨#[98]⟩ : ByteArray), (⟨#[49]⟩ : ByteArray)⟩ : S40)] : List (S40))) (inner := [.string (⟨#[98]⟩ : ByteArray), .string (⟨#[49]⟩ : ByteArray)]) (ok := fun _ => True) (okp := fun _ => True) ?hr ?hp (fun _ hk => hk) trivial (Below.refl _ _) (Nat.le_refl _) (by simp) ?_; (case hd => rfl); (case hg => rfl); (case hr => first | (go_simp; done) | (go_simp; rfl)); (case hp => exact (Reps.c2 (show Kd.M k40 _ _ _ (⟨(⟨#[98]⟩ : ByteArray), (⟨#[49]⟩ : ByteArray)⟩ : S40) [.string (⟨#[98]⟩ : ByteArray), .string (⟨#[49]⟩ : ByteArray)] from (k40_mkM _ _ _ (⟨(⟨#[98]⟩ : ByteArray), (⟨#[49]⟩ : ByteArray)⟩ : S40) )) (Reps.none _ _))); intro v179 w4 ho5 hb hg_ hnew_; clear hg_ hnew_; (first | rw [← Ny178.out] at ho5 | (simp only [Int.reduceToNat] at ho5; rw [← Ny178.out] at ho5)); have n0_ := Aside0.mk (Kd.R_below (kr_ HO177.out) hb); have n1_ := Aside0.mk (Kd.R_lower ho5 (below_size (by repeat (first | (with_reducible first | exact HB.out | apply below_alloc | apply pw_below_drewN | apply below_drew1 | refine below_set ?_ GE174.out) | exact HB.out)))); have n2_ := Aside0.mk (blk_below (kb_ BK174.out) hb); have n3_ := Aside0.mk (below_step (by repeat (first | (with_reducible first | exact HB.out | apply below_alloc | apply pw_below_drewN | apply below_drew1 | refine below_set ?_ GE174.out) | exact HB.out)) hb); clear HO177; clear BK174; clear HB; have HO177 := n0_; have HO180 := n1_; have BK174 := n2_; have HB := n3_; clear n0_ n1_ n2_ n3_; clear hb ho5; obtain ⟨Ao6, co6, eo6⟩ := Kd.R_slice HO180.out; subst eo6; obtain ⟨Ao7, co7, eo7⟩ := Kd.R_slice HO177.out; subst eo7; refine blk9_ BK174.out fun hcz8_0 hcz8_1 hcz8_2 hcz8_3 hcz8_4 hcz8_5 hcz8_6 hcz8_7 hcz8_8 hfz8_0 hfz8_1 hfz8_2 hfz8_3 hfz8_4 hfz8_5 hfz8_6 hfz8_7 hfz8_8 => ?_) | ((with_reducible refine gate_store (t := 29) (p := 0) rfl ?_); refine store_event (t := 29) (p := 0) (v := ?vo_w9) (w1 := (((((((((w4.setCell ⟨gb174, 0, none⟩ (.int .i64 1)).setCell ⟨gb174, 1, none⟩ (.int .i64 0)).setCell ⟨gb174, 2, none⟩ (.int .i64 1)).setCell ⟨gb174, 3, none⟩ (.int .i64 1)).setCell ⟨gb174, 4, none⟩ (.int .i64 0)).setCell ⟨gb174, 5, none⟩ (.int .i64 1)).setCell ⟨gb174, 6, none⟩ (.slice Ao7 y175.length co7)).setCell ⟨gb174, 7, none⟩ (.slice Ao6 y178.length co6)).setCell ⟨gb174, 8, none⟩ (.bool false))) ?hg ?ho ?hn ?hr ?_; (case ho => rfl); (case hg => rfl); (case hn => rfl); (case hr => first | (go_simp; done) | (go_simp; rfl)); intro w9 hw; have n0_ : Aside0 (Kd.R k38 38 w9 w.heap.size (fun _ => True) (.slice Ao7 y175.length co7) y175) := ⟨(by rw [hw]; exact (by (with_reducible repeat (first | apply Kd.R_alloc | apply Kd.R_drewN | apply Kd.R_drew)); exact Kd.R_mono (Kd.R_far (p := ⟨gb174, 8, none⟩) (Kd.R_far (p := ⟨gb174, 7, none⟩) (Kd.R_far (p := ⟨gb174, 6, none⟩) (Kd.R_far (p := ⟨gb174, 5, none⟩) (Kd.R_far (p := ⟨gb174, 4, none⟩) (Kd.R_far (p := ⟨gb174, 3, none⟩) (Kd.R_far (p := ⟨gb174, 2, none⟩) (Kd.R_far (p := ⟨gb174, 1, none⟩) (Kd.R_far (p := ⟨gb174, 0, none⟩) (Kd.R_types HO177.out BK174.out (by decide)) (fun _ hk => hk.2) (.int .i64 1)) (fun _ hk => hk.2) (.int .i64 0)) (fun _ hk => hk.2) (.int .i64 1)) (fun _ hk => hk.2) (.int .i64 1)) (fun _ hk => hk.2) (.int .i64 0)) (fun _ hk => hk.2) (.int .i64 1)) (fun _ hk => hk.2) (.slice Ao7 y175.length co7)) (fun _ hk => hk.2) (.slice Ao6 y178.length co6)) (fun _ hk => hk.2) (.bool false)) (fun _ hk => trivial)))⟩; have n1_ : Aside0 (Kd.R k40 40 w9 w.heap.size (fun _ => True) (.slice Ao6 y178.length co6) y178) := ⟨(by rw [hw]; exact (by (with_reducible repeat (first | apply Kd.R_alloc | apply Kd.R_drewN | apply Kd.R_drew)); exact Kd.R_mono (Kd.R_far (p := ⟨gb174, 8, none⟩) (Kd.R_far (p := ⟨gb174, 7, none⟩) (Kd.R_far (p := ⟨gb174, 6, none⟩) (Kd.R_far (p := ⟨gb174, 5, none⟩) (Kd.R_far (p := ⟨gb174, 4, none⟩) (Kd.R_far (p := ⟨gb174, 3, none⟩) (Kd.R_far (p := ⟨gb174, 2, none⟩) (Kd.R_far (p := ⟨gb174, 1, none⟩) (Kd.R_far (p := ⟨gb174, 0, none⟩) (Kd.R_types HO180.out BK174.out (by decide)) (fun _ hk => hk.2) (.int .i64 1)) (fun _ hk => hk.2) (.int .i64 0)) (fun _ hk => hk.2) (.int .i64 1)) (fun _ hk => hk.2) (.int .i64 1)) (fun _ hk => hk.2) (.int .i64 0)) (fun _ hk => hk.2) (.int .i64 1)) (fun _ hk => hk.2) (.slice Ao7 y175.length co7)) (fun _ hk => hk.2) (.slice Ao6 y178.length co6)) (fun _ hk => hk.2) (.bool false)) (fun _ hk => trivial)))⟩; have n2_ : Aside0 (w9.heap[gb174]? = some (.cells #[.int .i64 1, .int .i64 0, .int .i64 1, .int .i64 1, .int .i64 0, .int .i64 1, .slice Ao7 y175.length co7, .slice Ao6 y178.length co6, .bool false] 29 (0, 0))) := ⟨(by rw [hw]; exact (by (with_reducible repeat (first | refine blk_drewN ?_ _ | refine blk_drew ?_ | refine blk_alloc ?_ _)); refine blk_put (cs := #[.int .i64 1, .int .i64 0, .int .i64 1, .int .i64 1, .int .i64 0, .int .i64 1, .slice Ao7 y175.length co7, .slice Ao6 y178.length co6, .bool false]) ?_ 8 _ rfl; (with_reducible repeat (first | refine blk_drewN ?_ _ | refine blk_drew ?_ | refine blk_alloc ?_ _)); refine blk_put (cs := #[.int .i64 1, .int .i64 0, .int .i64 1, .int .i64 1, .int .i64 0, .int .i64 1, .slice Ao7 y175.length co7, .slice none 0 0, .bool false]) ?_ 7 _ rfl; (with_reducible repeat (first | refine blk_drewN ?_ _ | refine blk_drew ?_ | refine blk_alloc ?_ _)); refine blk_put (cs := #[.int .i64 1, .int .i64 0, .int .i64 1, .int .i64 1, .int .i64 0, .int .i64 1, .slice none 0 0, .slice none 0 0, .bool false]) ?_ 6 _ rfl; (with_reducible repeat (first | refine blk_drewN ?_ _ | refine blk_drew ?_ | refine blk_alloc ?_ _)); refine blk_put (cs := #[.int .i64 1, .int .i64 0, .int .i64 1, .int .i64 1, .int .i64 0, .int .i64 0, .slice none 0 0, .slice none 0 0, .bool false]) ?_ 5 _ rfl; (with_reducible repeat (first | refine blk_drewN ?_ _ | refine blk_drew ?_ | refine blk_alloc ?_ _)); refine blk_put (cs := #[.int .i64 1, .int .i64 0, .int .i64 1, .int .i64 1, .int .i64 0, .int .i64 0, .slice none 0 0, .slice none 0 0, .bool false]) ?_ 4 _ rfl; (with_reducible repeat (first | refine blk_drewN ?_ _ | refine blk_drew ?_ | refine blk_alloc ?_ _)); refine blk_put (cs := #[.int .i64 1, .int .i64 0, .int .i64 1, .int .i64 0, .int .i64 0, .int .i64 0, .slice none 0 0, .slice none 0 0, .bool false]) ?_ 3 _ rfl; (with_reducible repeat (first | refine blk_drewN ?_ _ | refine blk_drew ?_ | refine blk_alloc ?_ _)); refine blk_put (cs := #[.int .i64 1, .int .i64 0, .int .i64 0, .int .i64 0, .int .i64 0, .int .i64 0, .slice none 0 0, .slice none 0 0, .bool false]) ?_ 2 _ rfl; (with_reducible repeat (first | refine blk_drewN ?_ _ | refine blk_drew ?_ | refine blk_alloc ?_ _)); refine blk_put (cs := #[.int .i64 1, .int .i64 0, .int .i64 0, .int .i64 0, .int .i64 0, .int .i64 0, .slice none 0 0, .slice none 0 0, .bool false]) ?_ 1 _ rfl; (with_reducible repeat (first | refine blk_drewN ?_ _ | refine blk_drew ?_ | refine blk_alloc ?_ _)); refine blk_put (cs := #[.int .i64 0, .int .i64 0, .int .i64 0, .int .i64 0, .int .i64 0, .int .i64 0, .slice none 0 0, .slice none 0 0, .bool false]) ?_ 0 _ rfl; (with_reducible repeat (first | refine blk_drewN ?_ _ | refine blk_drew ?_ | refine blk_alloc ?_ _)); exact BK174.out))⟩; have n3_ : Aside0 (Below w.heap.size w w9) := ⟨(by rw [hw]; exact (by repeat (first | (with_reducible first | exact HB.out | apply below_alloc | apply pw_below_drewN | apply below_drew1 | refine below_set ?_ GE174.out) | exact HB.out)))⟩; clear hw; clear HO177; clear HO180; clear BK174; clear HB; have HO177 := n0_; have HO180 := n1_; have BK174 := n2_; have HB := n3_; clear n0_ n1_ n2_ n3_))
 refine bodyPost_ret (results_cell_row rfl _ _ gb174 29 #[.int .i64 1, .int .i64 0, .int .i64 1, .int .i64 1, .int .i64 0, .int .i64 1, .slice Ao7 y175.length co7, .slice Ao6 y178.length co6, .bool false] (0, 0) _ rfl (kb_ BK174.out) Try.underlying29 rfl (by kernel_rfl)) rfl ?_
 exact ⟨_, _, by first | rfl | (simp [errW_none, errW_some] <;> rfl) | (simp [*, errW_none, errW_some] <;> rfl), by (with_reducible repeat (first | apply Kd.R_alloc | apply Kd.R_drewN | apply Kd.R_drew)); exact HO177.out, by (with_reducible repeat (first | apply Kd.R_alloc | apply Kd.R_drewN | apply Kd.R_drew)); exact HO180.out, by repeat (first | (with_reducible first | exact HB.out | apply below_alloc | apply pw_below_drewN | apply below_drew1 | refine below_set ?_ GE174.out) | exact HB.out)⟩
end Go.Proofs.Ytnjeeedndnfglaa.X
end
section
namespace Go.Proofs.Ytnjeeedndnfglaa.X
open Go.RowKit Go.Proofs.YtnjeeedndnfglaaW.PrintWords Go.Proofs.YtnjeeedndnfglaaW.PrintLast Go.Proofs.YtnjeeedndnfglaaW.PrintMore
attribute [local go_sem] max2_int min2_int max_two min_two max_three min_three max_four min_four   -- for this text's walks alone
set_option linter.unusedVariables false
set_option linter.unusedSimpArgs false
/-! ### althinglaw05_awake: function 9 -/
def althinglaw05_awake.f (k : Nat)  : Option (Bool) := (althinglaw05_some.f).bind fun bt181 => ((command_Right.f k bt181.1 bt181.2.1 bt181.2.2.1 bt181.2.2.2.1 bt181.2.2.2.2.1 bt181.2.2.2.2.2.1 bt181.2.2.2.2.2.2.1 bt181.2.2.2.2.2.2.2.1 bt181.2.2.2.2.2.2.2.2).bind fun t194 => (if t194 = true then ((althinglaw05_some.f).bind fun bt195 => ((althinglaw05_some.f).bind fun bt208 => ((command_Interfere.f k bt195.1 bt195.2.1 bt195.2.2.1 bt195.2.2.2.1 bt195.2.2.2.2.1 bt195.2.2.2.2.2.1 bt195.2.2.2.2.2.2.1 bt195.2.2.2.2.2.2.2.1 bt195.2.2.2.2.2.2.2.2 bt208.1 bt208.2.1 bt208.2.2.1 bt208.2.2.2.1 bt208.2.2.2.2.1 bt208.2.2.2.2.2.1 bt208.2.2.2.2.2.2.1 bt208.2.2.2.2.2.2.2.1 bt208.2.2.2.2.2.2.2.2).bind fun t221 => (if t221 = true then ((althinglaw05_some.f).bind fun bt222 => ((command_Keys.f k bt222.1 bt222.2.1 bt222.2.2.1 bt222.2.2.2.1 bt222.2.2.2.2.1 bt222.2.2.2.2.2.1 bt222.2.2.2.2.2.2.1 bt222.2.2.2.2.2.2.2.1 bt222.2.2.2.2.2.2.2.2).bind fun t235 => (if (t235.length : Int) = 2 then ((althinglaw05_some.f).bind fun bt238 => ((althinglaw05_some.f).bind fun bt251 => ((command_Same.f k bt238.1 bt238.2.1 bt238.2.2.1 bt238.2.2.2.1 bt238.2.2.2.2.1 bt238.2.2.2.2.2.1 bt238.2.2.2.2.2.2.1 bt238.2.2.2.2.2.2.2.1 bt238.2.2.2.2.2.2.2.2 bt251.1 bt251.2.1 bt251.2.2.1 bt251.2.2.2.1 bt251.2.2.2.2.1 bt251.2.2.2.2.2.1 bt251.2.2.2.2.2.2.1 bt251.2.2.2.2.2.2.2.1 bt251.2.2.2.2.2.2.2.2).bind fun t264 => (some t264)))) else (some false)))) else (some false))))) else (some false)))
set_option maxHeartbeats 8000000 in
set_option maxRecDepth 100000 in
theorem althinglaw05_awake.calls (k : Nat)  (r : Bool) (w : World) (h : althinglaw05_awake.f k  = some r) :
 Calls Try.prog 9 #[] w fun e w' => e = .returned (.bool r) ∧ Below w.heap.size w w' := by
 have HB := Aside0.mk (Below.refl w.heap.size w)
 have H : ((althinglaw05_some.f).bind fun bt181 => ((command_Right.f k bt181.1 bt181.2.1 bt181.2.2.1 bt181.2.2.2.1 bt181.2.2.2.2.1 bt181.2.2.2.2.2.1 bt181.2.2.2.2.2.2.1 bt181.2.2.2.2.2.2.2.1 bt181.2.2.2.2.2.2.2.2).bind fun t194 => (if t194 = true then ((althinglaw05_some.f).bind fun bt195 => ((althinglaw05_some.f).bind fun bt208 => ((command_Interfere.f k bt195.1 bt195.2.1 bt195.2.2.1 bt195.2.2.2.1 bt195.2.2.2.2.1 bt195.2.2.2.2.2.1 bt195.2.2.2.2.2.2.1 bt195.2.2.2.2.2.2.2.1 bt195.2.2.2.2.2.2.2.2 bt208.1 bt208.2.1 bt208.2.2.1 bt208.2.2.2.1 bt208.2.2.2.2.1 bt208.2.2.2.2.2.1 bt208.2.2.2.2.2.2.1 bt208.2.2.2.2.2.2.2.1 bt208.2.2.2.2.2.2.2.2).bind fun t221 => (if t221 = true then ((althinglaw05_some.f).bind fun bt222 => ((command_Keys.f k bt222.1 bt222.2.1 bt222.2.2.1 bt222.2.2.2.1 bt222.2.2.2.2.1 bt222.2.2.2.2.2.1 bt222.2.2.2.2.2.2.1 bt222.2.2.2.2.2.2.2.1 bt222.2.2.2.2.2.2.2.2).bind fun t235 => (if (t235.length : Int) = 2 then ((althinglaw05_some.f).bind fun bt238 => ((althinglaw05_some.f).bind fun bt251 => ((command_Same.f k bt238.1 bt238.2.1 bt238.2.2.1 bt238.2.2.2.1 bt238.2.2.2.2.1 bt238.2.2.2.2.2.1 bt238.2.2.2.2.2.2.1 bt238.2.2.2.2.2.2.2.1 bt238.2.2.2.2.2.2.2.2 bt251.1 bt251.2.1 bt251.2.2.1 bt251.2.2.2.1 bt251.2.2.2.2.1 bt251.2.2.2.2.2.1 bt251.2.2.2.2.2.2.1 bt251.2.2.2.2.2.2.2.1 bt251.2.2.2.2.2.2.2.2).bind fun t264 => (some t264)))) else (some false)))) else (some false))))) else (some false)))) = some r := h
 clear h
 replace H := Option.bind_eq_some_iff.mp H
 obtain ⟨⟨t181, t182, t183, t184, t185, t186, t187, t190, t193⟩, A10, H⟩ := H
 replace H : ((command_Right.f k t181 t182 t183 t184 t185 t186 t187 t190 t193).bind fun t194 => (if t194 = true then ((althinglaw05_some.f).bind fun bt195 => ((althinglaw05_some.f).bind fun bt208 => ((command_Interfere.f k bt195.1 bt195.2.1 bt195.2.2.1 bt195.2.2.2.1 bt195.2.2.2.2.1 bt195.2.2.2.2.2.1 bt195.2.2.2.2.2.2.1 bt195.2.2.2.2.2.2.2.1 bt195.2.2.2.2.2.2.2.2 bt208.1 bt208.2.1 bt208.2.2.1 bt208.2.2.2.1 bt208.2.2.2.2.1 bt208.2.2.2.2.2.1 bt208.2.2.2.2.2.2.1 bt208.2.2.2.2.2.2.2.1 bt208.2.2.2.2.2.2.2.2).bind fun t221 => (if t221 = true then ((althinglaw05_some.f).bind fun bt222 => ((command_Keys.f k bt222.1 bt222.2.1 bt222.2.2.1 bt222.2.2.2.1 bt222.2.2.2.2.1 bt222.2.2.2.2.2.1 bt222.2.2.2.2.2.2.1 bt222.2.2.2.2.2.2.2.1 bt222.2.2.2.2.2.2.2.2).bind fun t235 => (if (t235.length : Int) = 2 then ((althinglaw05_some.f).bind fun bt238 => ((althinglaw05_some.f).bind fun bt251 => ((command_Same.f k bt238.1 bt238.2.1 bt238.2.2.1 bt238.2.2.2.1 bt238.2.2.2.2.1 bt238.2.2.2.2.2.1 bt238.2.2.2.2.2.2.1 bt238.2.2.2.2.2.2.2.1 bt238.2.2.2.2.2.2.2.2 bt251.1 bt251.2.1 bt251.2.2.1 bt251.2.2.2.1 bt251.2.2.2.2.1 bt251.2.2.2.2.2.1 bt251.2.2.2.2.2.2.1 bt251.2.2.2.2.2.2.2.1 bt251.2.2.2.2.2.2.2.2).bind fun t264 => (some t264)))) else (some false)))) else (some false))))) else (some false))) = some r := H
 have A1 := Aside0.mk A10
 clear A10
 obtain ⟨t194, A2, H⟩ := bs_ H
 by_cases c3 : t194 = true
 · subst c3
   rw [if_pos rfl] at H
   replace H := Option.bind_eq_some_iff.mp H
   obtain ⟨⟨t195, t196, t197, t198, t199, t200, t201, t204, t207⟩, A40, H⟩ := H
   replace H : ((althinglaw05_some.f).bind fun bt208 => ((command_Interfere.f k t195 t196 t197 t198 t199 t200 t201 t204 t207 bt208.1 bt208.2.1 bt208.2.2.1 bt208.2.2.2.1 bt208.2.2.2.2.1 bt208.2.2.2.2.2.1 bt208.2.2.2.2.2.2.1 bt208.2.2.2.2.2.2.2.1 bt208.2.2.2.2.2.2.2.2).bind fun t221 => (if t221 = true then ((althinglaw05_some.f).bind fun bt222 => ((command_Keys.f k bt222.1 bt222.2.1 bt222.2.2.1 bt222.2.2.2.1 bt222.2.2.2.2.1 bt222.2.2.2.2.2.1 bt222.2.2.2.2.2.2.1 bt222.2.2.2.2.2.2.2.1 bt222.2.2.2.2.2.2.2.2).bind fun t235 => (if (t235.length : Int) = 2 then ((althinglaw05_some.f).bind fun bt238 => ((althinglaw05_some.f).bind fun bt251 => ((command_Same.f k bt238.1 bt238.2.1 bt238.2.2.1 bt238.2.2.2.1 bt238.2.2.2.2.1 bt238.2.2.2.2.2.1 bt238.2.2.2.2.2.2.1 bt238.2.2.2.2.2.2.2.1 bt238.2.2.2.2.2.2.2.2 bt251.1 bt251.2.1 bt251.2.2.1 bt251.2.2.2.1 bt251.2.2.2.2.1 bt251.2.2.2.2.2.1 bt251.2.2.2.2.2.2.1 bt251.2.2.2.2.2.2.2.1 bt251.2.2.2.2.2.2.2.2).bind fun t264 => (some t264)))) else (some false)))) else (some false)))) = some r := H
   have A4 := Aside0.mk A40
   clear A40
   replace H := Option.bind_eq_some_iff.mp H
   obtain ⟨⟨t208, t209, t210, t211, t212, t213, t214, t217, t220⟩, A50, H⟩ := H
   replace H : ((command_Interfere.f k t195 t196 t197 t198 t199 t200 t201 t204 t207 t208 t209 t210 t211 t212 t213 t214 t217 t220).bind fun t221 => (if t221 = true then ((althinglaw05_some.f).bind fun bt222 => ((command_Keys.f k bt222.1 bt222.2.1 bt222.2.2.1 bt222.2.2.2.1 bt222.2.2.2.2.1 bt222.2.2.2.2.2.1 bt222.2.2.2.2.2.2.1 bt222.2.2.2.2.2.2.2.1 bt222.2.2.2.2.2.2.2.2).bind fun t235 => (if (t235.length : Int) = 2 then ((althinglaw05_some.f).bind fun bt238 => ((althinglaw05_some.f).bind fun bt251 => ((command_Same.f k bt238.1 bt238.2.1 bt238.2.2.1 bt238.2.2.2.1 bt238.2.2.2.2.1 bt238.2.2.2.2.2.1 bt238.2.2.2.2.2.2.1 bt238.2.2.2.2.2.2.2.1 bt238.2.2.2.2.2.2.2.2 bt251.1 bt251.2.1 bt251.2.2.1 bt251.2.2.2.1 bt251.2.2.2.2.1 bt251.2.2.2.2.2.1 bt251.2.2.2.2.2.2.1 bt251.2.2.2.2.2.2.2.1 bt251.2.2.2.2.2.2.2.2).bind fun t264 => (some t264)))) else (some false)))) else (some false))) = some r := H
   have A5 := Aside0.mk A50
   clear A50
   obtain ⟨t221, A6, H⟩ := bs_ H
   by_cases c7 : t221 = true
   · subst c7
     rw [if_pos rfl] at H
     replace H := Option.bind_eq_some_iff.mp H
     obtain ⟨⟨t222, t223, t224, t225, t226, t227, t228, t231, t234⟩, A80, H⟩ := H
     replace H : ((command_Keys.f k t222 t223 t224 t225 t226 t227 t228 t231 t234).bind fun t235 => (if (t235.length : Int) = 2 then ((althinglaw05_some.f).bind fun bt238 => ((althinglaw05_some.f).bind fun bt251 => ((command_Same.f k bt238.1 bt238.2.1 bt238.2.2.1 bt238.2.2.2.1 bt238.2.2.2.2.1 bt238.2.2.2.2.2.1 bt238.2.2.2.2.2.2.1 bt238.2.2.2.2.2.2.2.1 bt238.2.2.2.2.2.2.2.2 bt251.1 bt251.2.1 bt251.2.2.1 bt251.2.2.2.1 bt251.2.2.2.2.1 bt251.2.2.2.2.2.1 bt251.2.2.2.2.2.2.1 bt251.2.2.2.2.2.2.2.1 bt251.2.2.2.2.2.2.2.2).bind fun t264 => (some t264)))) else (some false))) = some r := H
     have A8 := Aside0.mk A80
     clear A80
     obtain ⟨t235, A9, H⟩ := bs_ H
     by_cases c10 : (t235.length : Int) = 2
     · rw [if_pos c10] at H
       have c10b0 : ((t235.length : Int) == 2) = true := beq_iff_eq.mpr c10
       have c10b1 : ((t235.length : Int) != 2) = false := bne_eq_false_iff_eq.mpr c10
       clear c10
       replace H := Option.bind_eq_some_iff.mp H
       obtain ⟨⟨t238, t239, t240, t241, t242, t243, t244, t247, t250⟩, A110, H⟩ := H
       replace H : ((althinglaw05_some.f).bind fun bt251 => ((command_Same.f k t238 t239 t240 t241 t242 t243 t244 t247 t250 bt251.1 bt251.2.1 bt251.2.2.1 bt251.2.2.2.1 bt251.2.2.2.2.1 bt251.2.2.2.2.2.1 bt251.2.2.2.2.2.2.1 bt251.2.2.2.2.2.2.2.1 bt251.2.2.2.2.2.2.2.2).bind fun t264 => (some t264))) = some r := H
       have A11 := Aside0.mk A110
       clear A110
       replace H := Option.bind_eq_some_iff.mp H
       obtain ⟨⟨t251, t252, t253, t254, t255, t256, t257, t260, t263⟩, A120, H⟩ := H
       replace H : ((command_Same.f k t238 t239 t240 t241 t242 t243 t244 t247 t250 t251 t252 t253 t254 t255 t256 t257 t260 t263).bind fun t264 => (some t264)) = some r := H
       have A12 := Aside0.mk A120
       clear A120
       obtain ⟨t264, A13, H⟩ := bs_ H
       obtain rfl := Option.some.inj H
       go_enter Try.func9, Try.ntmps9
       go_wp2_with (first | ((with_reducible refine gate_callee (f := 23) rfl ?_); refine goesL_ (some 1) rfl rfl Try.func23 (by kernel_rfl) rfl #[] rfl (by (try simp only [List.map_toArray, List.map_cons, List.map_nil]); first | done | rfl | (simp only [List.length_drop, List.length_take]; rfl)) ?_; (with_reducible refine (althinglaw05_some.calls  t181 t182 t183 t184 t185 t186 t187 t190 t193 _ A1.out).mono ?_); rintro e w14 ⟨v188, v191, rfl, ho0, ho1, hb⟩; refine ⟨_, rfl, ?_⟩; have n0_ := Aside0.mk (Kd.R_lower ho0 (below_size lb_)); have n1_ := Aside0.mk (Kd.R_lower ho1 (below_size lb_)); have n2_ := Aside0.mk (below_step lb_ hb); clear HB; have HO189 := n0_; have HO192 := n1_; have HB := n2_; clear n0_ n1_ n2_; (try clear hb); (try clear hb2); (try clear hk); (try clear hi); (try clear ho0); (try clear ho1); obtain ⟨Ao15, co15, eo15⟩ := Kd.R_slice HO189.out; subst eo15; obtain ⟨Ao16, co16, eo16⟩ := Kd.R_slice HO192.out; subst eo16) | ((with_reducible refine gate_callee (f := 14) rfl ?_); refine goesL_ (some 2) rfl rfl Try.func14 (by kernel_rfl) rfl #[.agg #[.int .i64 t181, .int .i64 t182, .int .i64 t183, .int .i64 t184, .int .i64 t185, .int .i64 t186, .slice Ao15 t187.length co15, .slice Ao16 t190.length co16, .bool t193]] rfl (by (try simp only [List.map_toArray, List.map_cons, List.map_nil]); first | done | rfl | (simp only [List.length_drop, List.length_take]; rfl)) ?_; (with_reducible refine (command_Right.calls k t181 t182 t183 t184 t185 t186 _ _ t187 _ _ t190 t193 true _ ?side1 ?side2 ?side3 ?side4 A2.out).mono ?_); (case side1 => repeat (first | exact (Kd.R_reads' HO189.out).2.2 | (with_reducible refine Kd.C_alloc ?_ _) | (with_reducible refine Kd.C_drewN ?_ _) | (with_reducible refine Kd.C_drew ?_))); (case side2 => exact (Kd.R_reads' HO189.out).2.1); (case side3 => repeat (first | exact (Kd.R_reads' HO192.out).2.2 | (with_reducible refine Kd.C_alloc ?_ _) | (with_reducible refine Kd.C_drewN ?_ _) | (with_reducible refine Kd.C_drew ?_))); (case side4 => exact (Kd.R_reads' HO192.out).2.1); rintro e w17 ⟨rfl, hb⟩; refine ⟨_, rfl, ?_⟩; have n0_ := Aside0.mk (Kd.R_below (kr_ HO189.out) hb); have n1_ := Aside0.mk (Kd.R_below (kr_ HO192.out) hb); have n2_ := Aside0.mk (below_step lb_ hb); clear HO189; clear HO192; clear HB; have HO189 := n0_; have HO192 := n1_; have HB := n2_; clear n0_ n1_ n2_; (try clear hb); (try clear hb2); (try clear hk); (try clear hi)) | ((with_reducible refine gate_dst (N := 4) rfl ?_); (try (refine gate_guard (by rfl) ?_; dsimp only)); (try (refine gate_guard (by rfl) ?_; dsimp only)); refine goesL_ (some 4) rfl rfl Try.func23 (by kernel_rfl) rfl #[] rfl (by (try simp only [List.map_toArray, List.map_cons, List.map_nil]); first | done | rfl) ?_; (with_reducible refine (althinglaw05_some.calls  t195 t196 t197 t198 t199 t200 t201 t204 t207 _ A4.out).mono ?_); rintro e w18 ⟨v202, v205, rfl, ho0, ho1, hb⟩; refine ⟨_, rfl, ?_⟩; have n0_ := Aside0.mk (Kd.R_elder' (kr_ HO189.out) (Kd.R_base ho0) hb); have n1_ := Aside0.mk (Kd.R_elder' (kr_ HO192.out) (Kd.R_base ho1) hb); have n2_ := Aside0.mk (Kd.R_lower (Kd.R_new' ho0 (Kd.R_lt (kr_ HO189.out))) (below_size lb_)); have n3_ := Aside0.mk (Kd.R_lower (Kd.R_new' ho1 (Kd.R_lt (kr_ HO192.out))) (below_size lb_)); have n4_ := Aside0.mk (below_step lb_ hb); clear HO189; clear HO192; clear HB; have HO189 := n0_; have HO192 := n1_; have HO203 := n2_; have HO206 := n3_; have HB := n4_; clear n0_ n1_ n2_ n3_ n4_; (try clear hb); (try clear hb2); (try clear hk); (try clear hi); (try clear ho0); (try clear ho1)) | ((with_reducible refine gate_dst (N := 5) rfl ?_); (try (refine gate_guard (by rfl) ?_; dsimp only)); (try (refine gate_guard (by rfl) ?_; dsimp only)); refine goesL_ (some 5) rfl rfl Try.func23 (by kernel_rfl) rfl #[] rfl (by (try simp only [List.map_toArray, List.map_cons, List.map_nil]); first | done | rfl) ?_; (with_reducible refine (althinglaw05_some.calls  t208 t209 t210 t211 t212 t213 t214 t217 t220 _ A5.out).mono ?_); rintro e w19 ⟨v215, v218, rfl, ho0, ho1, hb⟩; refine ⟨_, rfl, ?_⟩; have n0_ := Aside0.mk (Kd.R_elder' (kr_ HO189.out) (Kd.R_base ho0) hb); have n1_ := Aside0.mk (Kd.R_elder' (kr_ HO192.out) (Kd.R_base ho1) hb); have n2_ := Aside0.mk (Kd.R_elder' (kr_ HO203.out) (Kd.R_base ho0) hb); have n3_ := Aside0.mk (Kd.R_elder' (kr_ HO206.out) (Kd.R_base ho1) hb); have n4_ := Aside0.mk (Kd.R_lower (Kd.R_new' (Kd.R_new' ho0 (Kd.R_lt (kr_ HO189.out))) (Kd.R_lt (kr_ HO203.out))) (below_size lb_)); have n5_ := Aside0.mk (Kd.R_lower (Kd.R_new' (Kd.R_new' ho1 (Kd.R_lt (kr_ HO192.out))) (Kd.R_lt (kr_ HO206.out))) (below_size lb_)); have n6_ := Aside0.mk (below_step lb_ hb); clear HO189; clear HO192; clear HO203; clear HO206; clear HB; have HO189 := n0_; have HO192 := n1_; have HO203 := n2_; have HO206 := n3_; have HO216 := n4_; have HO219 := n5_; have HB := n6_; clear n0_ n1_ n2_ n3_ n4_ n5_ n6_; (try clear hb); (try clear hb2); (try clear hk); (try clear hi); (try clear ho0); (try clear ho1); obtain ⟨Ao20, co20, eo20⟩ := Kd.R_slice HO203.out; subst eo20; obtain ⟨Ao21, co21, eo21⟩ := Kd.R_slice HO206.out; subst eo21; obtain ⟨Ao22, co22, eo22⟩ := Kd.R_slice HO216.out; subst eo22; obtain ⟨Ao23, co23, eo23⟩ := Kd.R_slice HO219.out; subst eo23) | (go_at_call 13; (with_reducible refine (command_Interfere.calls k t195 t196 t197 t198 t199 t200 _ _ t201 _ _ t204 t207 t208 t209 t210 t211 t212 t213 _ _ t214 _ _ t217 t220 true _ ?side1 ?side2 ?side3 ?side4 ?side5 ?side6 ?side7 ?side8 A6.out).mono ?_); (case side1 => repeat (first | exact (Kd.R_reads' HO203.out).2.2 | (with_reducible refine Kd.C_alloc ?_ _) | (with_reducible refine Kd.C_drewN ?_ _) | (with_reducible refine Kd.C_drew ?_))); (case side2 => exact (Kd.R_reads' HO203.out).2.1); (case side3 => repeat (first | exact (Kd.R_reads' HO206.out).2.2 | (with_reducible refine Kd.C_alloc ?_ _) | (with_reducible refine Kd.C_drewN ?_ _) | (with_reducible refine Kd.C_drew ?_))); (case side4 => exact (Kd.R_reads' HO206.out).2.1); (case side5 => repeat (first | exact (Kd.R_reads' HO216.out).2.2 | (with_reducible refine Kd.C_alloc ?_ _) | (with_reducible refine Kd.C_drewN ?_ _) | (with_reducible refine Kd.C_drew ?_))); (case side6 => exact (Kd.R_reads' HO216.out).2.1); (case side7 => repeat (first | exact (Kd.R_reads' HO219.out).2.2 | (with_reducible refine Kd.C_alloc ?_ _) | (with_reducible refine Kd.C_drewN ?_ _) | (with_reducible refine Kd.C_drew ?_))); (case side8 => exact (Kd.R_reads' HO219.out).2.1); rintro e w24 ⟨rfl, hb⟩; have n0_ := Aside0.mk (Kd.R_below (kr_ HO189.out) hb); have n1_ := Aside0.mk (Kd.R_below (kr_ HO192.out) hb); have n2_ := Aside0.mk (Kd.R_below (kr_ HO203.out) hb); have n3_ := Aside0.mk (Kd.R_below (kr_ HO206.out) hb); have n4_ := Aside0.mk (Kd.R_below (kr_ HO216.out) hb); have n5_ := Aside0.mk (Kd.R_below (kr_ HO219.out) hb); have n6_ := Aside0.mk (below_step lb_ hb); clear HO189; clear HO192; clear HO203; clear HO206; clear HO216; clear HO219; clear HB; have HO189 := n0_; have HO192 := n1_; have HO203 := n2_; have HO206 := n3_; have HO216 := n4_; have HO219 := n5_; have HB := n6_; clear n0_ n1_ n2_ n3_ n4_ n5_ n6_; (try clear hb); (try clear hb2); (try clear hk); (try clear hi)) | ((with_reducible refine gate_dst (N := 9) rfl ?_); (try (refine gate_guard (by rfl) ?_; dsimp only)); (try (refine gate_guard (by rfl) ?_; dsimp only)); refine goesL_ (some 9) rfl rfl Try.func23 (by kernel_rfl) rfl #[] rfl (by (try simp only [List.map_toArray, List.map_cons, List.map_nil]); first | done | rfl) ?_; (with_reducible refine (althinglaw05_some.calls  t222 t223 t224 t225 t226 t227 t228 t231 t234 _ A8.out).mono ?_); rintro e w25 ⟨v229, v232, rfl, ho0, ho1, hb⟩; refine ⟨_, rfl, ?_⟩; have n0_ := Aside0.mk (Kd.R_elder' (kr_ HO189.out) (Kd.R_base ho0) hb); have n1_ := Aside0.mk (Kd.R_elder' (kr_ HO192.out) (Kd.R_base ho1) hb); have n2_ := Aside0.mk (Kd.R_elder' (kr_ HO203.out) (Kd.R_base ho0) hb); have n3_ := Aside0.mk (Kd.R_elder' (kr_ HO206.out) (Kd.R_base ho1) hb); have n4_ := Aside0.mk (Kd.R_elder' (kr_ HO216.out) (Kd.R_base ho0) hb); have n5_ := Aside0.mk (Kd.R_elder' (kr_ HO219.out) (Kd.R_base ho1) hb); have n6_ := Aside0.mk (Kd.R_lower (Kd.R_new' (Kd.R_new' (Kd.R_new' ho0 (Kd.R_lt (kr_ HO189.out))) (Kd.R_lt (kr_ HO203.out))) (Kd.R_lt (kr_ HO216.out))) (below_size lb_)); have n7_ := Aside0.mk (Kd.R_lower (Kd.R_new' (Kd.R_new' (Kd.R_new' ho1 (Kd.R_lt (kr_ HO192.out))) (Kd.R_lt (kr_ HO206.out))) (Kd.R_lt (kr_ HO219.out))) (below_size lb_)); have n8_ := Aside0.mk (below_step lb_ hb); clear HO189; clear HO192; clear HO203; clear HO206; clear HO216; clear HO219; clear HB; have HO189 := n0_; have HO192 := n1_; have HO203 := n2_; have HO206 := n3_; have HO216 := n4_; have HO219 := n5_; have HO230 := n6_; have HO233 := n7_; have HB := n8_; clear n0_ n1_ n2_ n3_ n4_ n5_ n6_ n7_ n8_; (try clear hb); (try clear hb2); (try clear hk); (try clear hi); (try clear ho0); (try clear ho1); obtain ⟨Ao26, co26, eo26⟩ := Kd.R_slice HO230.out; subst eo26; obtain ⟨Ao27, co27, eo27⟩ := Kd.R_slice HO233.out; subst eo27) | (go_at_call 24; (with_reducible refine (command_Keys.calls k t222 t223 t224 t225 t226 t227 _ _ t228 _ _ t231 t234 t235 _ ?side1 ?side2 ?side3 ?side4 A9.out).mono ?_); (case side1 => repeat (first | exact (Kd.R_reads' HO230.out).2.2 | (with_reducible refine Kd.C_alloc ?_ _) | (with_reducible refine Kd.C_drewN ?_ _) | (with_reducible refine Kd.C_drew ?_))); (case side2 => exact (Kd.R_reads' HO230.out).2.1); (case side3 => repeat (first | exact (Kd.R_reads' HO233.out).2.2 | (with_reducible refine Kd.C_alloc ?_ _) | (with_reducible refine Kd.C_drewN ?_ _) | (with_reducible refine Kd.C_drew ?_))); (case side4 => exact (Kd.R_reads' HO233.out).2.1); rintro e w28 ⟨v236, rfl, ho0, hb⟩; have n0_ := Aside0.mk (Kd.R_below (kr_ HO189.out) hb); have n1_ := Aside0.mk (Kd.R_below (kr_ HO192.out) hb); have n2_ := Aside0.mk (Kd.R_below (kr_ HO203.out) hb); have n3_ := Aside0.mk (Kd.R_below (kr_ HO206.out) hb); have n4_ := Aside0.mk (Kd.R_below (kr_ HO216.out) hb); have n5_ := Aside0.mk (Kd.R_below (kr_ HO219.out) hb); have n6_ := Aside0.mk (Kd.R_below (kr_ HO230.out) hb); have n7_ := Aside0.mk (Kd.R_below (kr_ HO233.out) hb); have n8_ := Aside0.mk (Kd.R_lower ho0 (below_size lb_)); have n9_ := Aside0.mk (below_step lb_ hb); clear HO189; clear HO192; clear HO203; clear HO206; clear HO216; clear HO219; clear HO230; clear HO233; clear HB; have HO189 := n0_; have HO192 := n1_; have HO203 := n2_; have HO206 := n3_; have HO216 := n4_; have HO219 := n5_; have HO230 := n6_; have HO233 := n7_; have HO237 := n8_; have HB := n9_; clear n0_ n1_ n2_ n3_ n4_ n5_ n6_ n7_ n8_ n9_; (try clear hb); (try clear hb2); (try clear hk); (try clear hi); (try clear ho0); obtain ⟨Ao29, co29, eo29⟩ := Kd.R_slice HO237.out; subst eo29) | ((with_reducible refine gate_dst (N := 15) rfl ?_); (try (refine gate_guard (by rfl) ?_; dsimp only)); (try (refine gate_guard (by rfl) ?_; dsimp only)); refine goesL_ (some 15) rfl rfl Try.func23 (by kernel_rfl) rfl #[] rfl (by (try simp only [List.map_toArray, List.map_cons, List.map_nil]); first | done | rfl) ?_; (with_reducible refine (althinglaw05_some.calls  t238 t239 t240 t241 t242 t243 t244 t247 t250 _ A11.out).mono ?_); rintro e w30 ⟨v245, v248, rfl, ho0, ho1, hb⟩; refine ⟨_, rfl, ?_⟩; have n0_ := Aside0.mk (Kd.R_elder' (kr_ HO189.out) (Kd.R_base ho0) hb); have n1_ := Aside0.mk (Kd.R_elder' (kr_ HO192.out) (Kd.R_base ho1) hb); have n2_ := Aside0.mk (Kd.R_elder' (kr_ HO203.out) (Kd.R_base ho0) hb); have n3_ := Aside0.mk (Kd.R_elder' (kr_ HO206.out) (Kd.R_base ho1) hb); have n4_ := Aside0.mk (Kd.R_elder' (kr_ HO216.out) (Kd.R_base ho0) hb); have n5_ := Aside0.mk (Kd.R_elder' (kr_ HO219.out) (Kd.R_base ho1) hb); have n6_ := Aside0.mk (Kd.R_elder' (kr_ HO230.out) (Kd.R_base ho0) hb); have n7_ := Aside0.mk (Kd.R_elder' (kr_ HO233.out) (Kd.R_base ho1) hb); have n8_ := Aside0.mk (Kd.R_below (kr_ HO237.out) hb); have n9_ := Aside0.mk (Kd.R_lower (Kd.R_new' (Kd.R_new' (Kd.R_new' (Kd.R_new' ho0 (Kd.R_lt (kr_ HO189.out))) (Kd.R_lt (kr_ HO203.out))) (Kd.R_lt (kr_ HO216.out))) (Kd.R_lt (kr_ HO230.out))) (below_size lb_)); have n10_ := Aside0.mk (Kd.R_lower (Kd.R_new' (Kd.R_new' (Kd.R_new' (Kd.R_new' ho1 (Kd.R_lt (kr_ HO192.out))) (Kd.R_lt (kr_ HO206.out))) (Kd.R_lt (kr_ HO219.out))) (Kd.R_lt (kr_ HO233.out))) (below_size lb_)); have n11_ := Aside0.mk (below_step lb_ hb); clear HO189; clear HO192; clear HO203; clear HO206; clear HO216; clear HO219; clear HO230; clear HO233; clear HO237; clear HB; have HO189 := n0_; have HO192 := n1_; have HO203 := n2_; have HO206 := n3_; have HO216 := n4_; have HO219 := n5_; have HO230 := n6_; have HO233 := n7_; have HO237 := n8_; have HO246 := n9_; have HO249 := n10_; have HB := n11_; clear n0_ n1_ n2_ n3_ n4_ n5_ n6_ n7_ n8_ n9_ n10_ n11_; (try clear hb); (try clear hb2); (try clear hk); (try clear hi); (try clear ho0); (try clear ho1)) | ((with_reducible refine gate_dst (N := 16) rfl ?_); (try (refine gate_guard (by rfl) ?_; dsimp only)); (try (refine gate_guard (by rfl) ?_; dsimp only)); refine goesL_ (some 16) rfl rfl Try.func23 (by kernel_rfl) rfl #[] rfl (by (try simp only [List.map_toArray, List.map_cons, List.map_nil]); first | done | rfl) ?_; (with_reducible refine (althinglaw05_some.calls  t251 t252 t253 t254 t255 t256 t257 t260 t263 _ A12.out).mono ?_); rintro e w31 ⟨v258, v261, rfl, ho0, ho1, hb⟩; refine ⟨_, rfl, ?_⟩; have n0_ := Aside0.mk (Kd.R_elder' (kr_ HO189.out) (Kd.R_base ho0) hb); have n1_ := Aside0.mk (Kd.R_elder' (kr_ HO192.out) (Kd.R_base ho1) hb); have n2_ := Aside0.mk (Kd.R_elder' (kr_ HO203.out) (Kd.R_base ho0) hb); have n3_ := Aside0.mk (Kd.R_elder' (kr_ HO206.out) (Kd.R_base ho1) hb); have n4_ := Aside0.mk (Kd.R_elder' (kr_ HO216.out) (Kd.R_base ho0) hb); have n5_ := Aside0.mk (Kd.R_elder' (kr_ HO219.out) (Kd.R_base ho1) hb); have n6_ := Aside0.mk (Kd.R_elder' (kr_ HO230.out) (Kd.R_base ho0) hb); have n7_ := Aside0.mk (Kd.R_elder' (kr_ HO233.out) (Kd.R_base ho1) hb); have n8_ := Aside0.mk (Kd.R_below (kr_ HO237.out) hb); have n9_ := Aside0.mk (Kd.R_elder' (kr_ HO246.out) (Kd.R_base ho0) hb); have n10_ := Aside0.mk (Kd.R_elder' (kr_ HO249.out) (Kd.R_base ho1) hb); have n11_ := Aside0.mk (Kd.R_lower (Kd.R_new' (Kd.R_new' (Kd.R_new' (Kd.R_new' (Kd.R_new' ho0 (Kd.R_lt (kr_ HO189.out))) (Kd.R_lt (kr_ HO203.out))) (Kd.R_lt (kr_ HO216.out))) (Kd.R_lt (kr_ HO230.out))) (Kd.R_lt (kr_ HO246.out))) (below_size lb_)); have n12_ := Aside0.mk (Kd.R_lower (Kd.R_new' (Kd.R_new' (Kd.R_new' (Kd.R_new' (Kd.R_new' ho1 (Kd.R_lt (kr_ HO192.out))) (Kd.R_lt (kr_ HO206.out))) (Kd.R_lt (kr_ HO219.out))) (Kd.R_lt (kr_ HO233.out))) (Kd.R_lt (kr_ HO249.out))) (below_size lb_)); have n13_ := Aside0.mk (below_step lb_ hb); clear HO189; clear HO192; clear HO203; clear HO206; clear HO216; clear HO219; clear HO230; clear HO233; clear HO237; clear HO246; clear HO249; clear HB; have HO189 := n0_; have HO192 := n1_; have HO203 := n2_; have HO206 := n3_; have HO216 := n4_; have HO219 := n5_; have HO230 := n6_; have HO233 := n7_; have HO237 := n8_; have HO246 := n9_; have HO249 := n10_; have HO259 := n11_; have HO262 := n12_; have HB := n13_; clear n0_ n1_ n2_ n3_ n4_ n5_ n6_ n7_ n8_ n9_ n10_ n11_ n12_ n13_; (try clear hb); (try clear hb2); (try clear hk); (try clear hi); (try clear ho0); (try clear ho1); obtain ⟨Ao32, co32, eo32⟩ := Kd.R_slice HO246.out; subst eo32; obtain ⟨Ao33, co33, eo33⟩ := Kd.R_slice HO249.out; subst eo33; obtain ⟨Ao34, co34, eo34⟩ := Kd.R_slice HO259.out; subst eo34; obtain ⟨Ao35, co35, eo35⟩ := Kd.R_slice HO262.out; subst eo35) | (go_at_call 25; (with_reducible refine (command_Same.calls k t238 t239 t240 t241 t242 t243 _ _ t244 _ _ t247 t250 t251 t252 t253 t254 t255 t256 _ _ t257 _ _ t260 t263 t264 _ ?side1 ?side2 ?side3 ?side4 ?side5 ?side6 ?side7 ?side8 A13.out).mono ?_); (case side1 => repeat (first | exact (Kd.R_reads' HO246.out).2.2 | (with_reducible refine Kd.C_alloc ?_ _) | (with_reducible refine Kd.C_drewN ?_ _) | (with_reducible refine Kd.C_drew ?_))); (case side2 => exact (Kd.R_reads' HO246.out).2.1); (case side3 => repeat (first | exact (Kd.R_reads' HO249.out).2.2 | (with_reducible refine Kd.C_alloc ?_ _) | (with_reducible refine Kd.C_drewN ?_ _) | (with_reducible refine Kd.C_drew ?_))); (case side4 => exact (Kd.R_reads' HO249.out).2.1); (case side5 => repeat (first | exact (Kd.R_reads' HO259.out).2.2 | (with_reducible refine Kd.C_alloc ?_ _) | (with_reducible refine Kd.C_drewN ?_ _) | (with_reducible refine Kd.C_drew ?_))); (case side6 => exact (Kd.R_reads' HO259.out).2.1); (case side7 => repeat (first | exact (Kd.R_reads' HO262.out).2.2 | (with_reducible refine Kd.C_alloc ?_ _) | (with_reducible refine Kd.C_drewN ?_ _) | (with_reducible refine Kd.C_drew ?_))); (case side8 => exact (Kd.R_reads' HO262.out).2.1); rintro e w36 ⟨rfl, hb⟩; have n0_ := Aside0.mk (Kd.R_below (kr_ HO189.out) hb); have n1_ := Aside0.mk (Kd.R_below (kr_ HO192.out) hb); have n2_ := Aside0.mk (Kd.R_below (kr_ HO203.out) hb); have n3_ := Aside0.mk (Kd.R_below (kr_ HO206.out) hb); have n4_ := Aside0.mk (Kd.R_below (kr_ HO216.out) hb); have n5_ := Aside0.mk (Kd.R_below (kr_ HO219.out) hb); have n6_ := Aside0.mk (Kd.R_below (kr_ HO230.out) hb); have n7_ := Aside0.mk (Kd.R_below (kr_ HO233.out) hb); have n8_ := Aside0.mk (Kd.R_below (kr_ HO237.out) hb); have n9_ := Aside0.mk (Kd.R_below (kr_ HO246.out) hb); have n10_ := Aside0.mk (Kd.R_below (kr_ HO249.out) hb); have n11_ := Aside0.mk (Kd.R_below (kr_ HO259.out) hb); have n12_ := Aside0.mk (Kd.R_below (kr_ HO262.out) hb); have n13_ := Aside0.mk (below_step lb_ hb); clear HO189; clear HO192; clear HO203; clear HO206; clear HO216; clear HO219; clear HO230; clear HO233; clear HO237; clear HO246; clear HO249; clear HO259; clear HO262; clear HB; have HO189 := n0_; have HO192 := n1_; have HO203 := n2_; have HO206 := n3_; have HO216 := n4_; have HO219 := n5_; have HO230 := n6_; have HO233 := n7_; have HO237 := n8_; have HO246 := n9_; have HO249 := n10_; have HO259 := n11_; have HO262 := n12_; have HB := n13_; clear n0_ n1_ n2_ n3_ n4_ n5_ n6_ n7_ n8_ n9_ n10_ n11_ n12_ n13_; (try clear hb); (try clear hb2); (try clear hk); (try clear hi)))
       go_ret
       exact ⟨by first | rfl | (simp [errW_none, errW_some] <;> rfl) | (simp [*, errW_none, errW_some] <;> rfl), by repeat (first | (with_reducible first | exact HB.out | apply below_alloc | apply pw_below_drewN | apply below_drew1) | exact HB.out)⟩
     · rw [if_neg c10] at H
       have c10b0 : ((t235.length : Int) == 2) = false := beq_eq_false_iff_ne.mpr c10
       have c10b1 : ((t235.length : Int) != 2) = true := bne_iff_ne.mpr c10
       obtain rfl := Option.some.inj H
       go_enter Try.func9, Try.ntmps9
       go_wp2_with (first | ((with_reducible refine gate_callee (f := 23) rfl ?_); refine goesL_ (some 1) rfl rfl Try.func23 (by kernel_rfl) rfl #[] rfl (by (try simp only [List.map_toArray, List.map_cons, List.map_nil]); first | done | rfl | (simp only [List.length_drop, List.length_take]; rfl)) ?_; (with_reducible refine (althinglaw05_some.calls  t181 t182 t183 t184 t185 t186 t187 t190 t193 _ A1.out).mono ?_); rintro e w37 ⟨v188, v191, rfl, ho0, ho1, hb⟩; refine ⟨_, rfl, ?_⟩; have n0_ := Aside0.mk (Kd.R_lower ho0 (below_size lb_)); have n1_ := Aside0.mk (Kd.R_lower ho1 (below_size lb_)); have n2_ := Aside0.mk (below_step lb_ hb); clear HB; have HO189 := n0_; have HO192 := n1_; have HB := n2_; clear n0_ n1_ n2_; (try clear hb); (try clear hb2); (try clear hk); (try clear hi); (try clear ho0); (try clear ho1); obtain ⟨Ao38, co38, eo38⟩ := Kd.R_slice HO189.out; subst eo38; obtain ⟨Ao39, co39, eo39⟩ := Kd.R_slice HO192.out; subst eo39) | ((with_reducible refine gate_callee (f := 14) rfl ?_); refine goesL_ (some 2) rfl rfl Try.func14 (by kernel_rfl) rfl #[.agg #[.int .i64 t181, .int .i64 t182, .int .i64 t183, .int .i64 t184, .int .i64 t185, .int .i64 t186, .slice Ao38 t187.length co38, .slice Ao39 t190.length co39, .bool t193]] rfl (by (try simp only [List.map_toArray, List.map_cons, List.map_nil]); first | done | rfl | (simp only [List.length_drop, List.length_take]; rfl)) ?_; (with_reducible refine (command_Right.calls k t181 t182 t183 t184 t185 t186 _ _ t187 _ _ t190 t193 true _ ?side1 ?side2 ?side3 ?side4 A2.out).mono ?_); (case side1 => repeat (first | exact (Kd.R_reads' HO189.out).2.2 | (with_reducible refine Kd.C_alloc ?_ _) | (with_reducible refine Kd.C_drewN ?_ _) | (with_reducible refine Kd.C_drew ?_))); (case side2 => exact (Kd.R_reads' HO189.out).2.1); (case side3 => repeat (first | exact (Kd.R_reads' HO192.out).2.2 | (with_reducible refine Kd.C_alloc ?_ _) | (with_reducible refine Kd.C_drewN ?_ _) | (with_reducible refine Kd.C_drew ?_))); (case side4 => exact (Kd.R_reads' HO192.out).2.1); rintro e w40 ⟨rfl, hb⟩; refine ⟨_, rfl, ?_⟩; have n0_ := Aside0.mk (Kd.R_below (kr_ HO189.out) hb); have n1_ := Aside0.mk (Kd.R_below (kr_ HO192.out) hb); have n2_ := Aside0.mk (below_step lb_ hb); clear HO189; clear HO192; clear HB; have HO189 := n0_; have HO192 := n1_; have HB := n2_; clear n0_ n1_ n2_; (try clear hb); (try clear hb2); (try clear hk); (try clear hi)) | ((with_reducible refine gate_dst (N := 4) rfl ?_); (try (refine gate_guard (by rfl) ?_; dsimp only)); (try (refine gate_guard (by rfl) ?_; dsimp only)); refine goesL_ (some 4) rfl rfl Try.func23 (by kernel_rfl) rfl #[] rfl (by (try simp only [List.map_toArray, List.map_cons, List.map_nil]); first | done | rfl) ?_; (with_reducible refine (althinglaw05_some.calls  t195 t196 t197 t198 t199 t200 t201 t204 t207 _ A4.out).mono ?_); rintro e w41 ⟨v202, v205, rfl, ho0, ho1, hb⟩; refine ⟨_, rfl, ?_⟩; have n0_ := Aside0.mk (Kd.R_elder' (kr_ HO189.out) (Kd.R_base ho0) hb); have n1_ := Aside0.mk (Kd.R_elder' (kr_ HO192.out) (Kd.R_base ho1) hb); have n2_ := Aside0.mk (Kd.R_lower (Kd.R_new' ho0 (Kd.R_lt (kr_ HO189.out))) (below_size lb_)); have n3_ := Aside0.mk (Kd.R_lower (Kd.R_new' ho1 (Kd.R_lt (kr_ HO192.out))) (below_size lb_)); have n4_ := Aside0.mk (below_step lb_ hb); clear HO189; clear HO192; clear HB; have HO189 := n0_; have HO192 := n1_; have HO203 := n2_; have HO206 := n3_; have HB := n4_; clear n0_ n1_ n2_ n3_ n4_; (try clear hb); (try clear hb2); (try clear hk); (try clear hi); (try clear ho0); (try clear ho1)) | ((with_reducible refine gate_dst (N := 5) rfl ?_); (try (refine gate_guard (by rfl) ?_; dsimp only)); (try (refine gate_guard (by rfl) ?_; dsimp only)); refine goesL_ (some 5) rfl rfl Try.func23 (by kernel_rfl) rfl #[] rfl (by (try simp only [List.map_toArray, List.map_cons, List.map_nil]); first | done | rfl) ?_; (with_reducible refine (althinglaw05_some.calls  t208 t209 t210 t211 t212 t213 t214 t217 t220 _ A5.out).mono ?_); rintro e w42 ⟨v215, v218, rfl, ho0, ho1, hb⟩; refine ⟨_, rfl, ?_⟩; have n0_ := Aside0.mk (Kd.R_elder' (kr_ HO189.out) (Kd.R_base ho0) hb); have n1_ := Aside0.mk (Kd.R_elder' (kr_ HO192.out) (Kd.R_base ho1) hb); have n2_ := Aside0.mk (Kd.R_elder' (kr_ HO203.out) (Kd.R_base ho0) hb); have n3_ := Aside0.mk (Kd.R_elder' (kr_ HO206.out) (Kd.R_base ho1) hb); have n4_ := Aside0.mk (Kd.R_lower (Kd.R_new' (Kd.R_new' ho0 (Kd.R_lt (kr_ HO189.out))) (Kd.R_lt (kr_ HO203.out))) (below_size lb_)); have n5_ := Aside0.mk (Kd.R_lower (Kd.R_new' (Kd.R_new' ho1 (Kd.R_lt (kr_ HO192.out))) (Kd.R_lt (kr_ HO206.out))) (below_size lb_)); have n6_ := Aside0.mk (below_step lb_ hb); clear HO189; clear HO192; clear HO203; clear HO206; clear HB; have HO189 := n0_; have HO192 := n1_; have HO203 := n2_; have HO206 := n3_; have HO216 := n4_; have HO219 := n5_; have HB := n6_; clear n0_ n1_ n2_ n3_ n4_ n5_ n6_; (try clear hb); (try clear hb2); (try clear hk); (try clear hi); (try clear ho0); (try clear ho1); obtain ⟨Ao43, co43, eo43⟩ := Kd.R_slice HO203.out; subst eo43; obtain ⟨Ao44, co44, eo44⟩ := Kd.R_slice HO206.out; subst eo44; obtain ⟨Ao45, co45, eo45⟩ := Kd.R_slice HO216.out; subst eo45; obtain ⟨Ao46, co46, eo46⟩ := Kd.R_slice HO219.out; subst eo46) | (go_at_call 13; (with_reducible refine (command_Interfere.calls k t195 t196 t197 t198 t199 t200 _ _ t201 _ _ t204 t207 t208 t209 t210 t211 t212 t213 _ _ t214 _ _ t217 t220 true _ ?side1 ?side2 ?side3 ?side4 ?side5 ?side6 ?side7 ?side8 A6.out).mono ?_); (case side1 => repeat (first | exact (Kd.R_reads' HO203.out).2.2 | (with_reducible refine Kd.C_alloc ?_ _) | (with_reducible refine Kd.C_drewN ?_ _) | (with_reducible refine Kd.C_drew ?_))); (case side2 => exact (Kd.R_reads' HO203.out).2.1); (case side3 => repeat (first | exact (Kd.R_reads' HO206.out).2.2 | (with_reducible refine Kd.C_alloc ?_ _) | (with_reducible refine Kd.C_drewN ?_ _) | (with_reducible refine Kd.C_drew ?_))); (case side4 => exact (Kd.R_reads' HO206.out).2.1); (case side5 => repeat (first | exact (Kd.R_reads' HO216.out).2.2 | (with_reducible refine Kd.C_alloc ?_ _) | (with_reducible refine Kd.C_drewN ?_ _) | (with_reducible refine Kd.C_drew ?_))); (case side6 => exact (Kd.R_reads' HO216.out).2.1); (case side7 => repeat (first | exact (Kd.R_reads' HO219.out).2.2 | (with_reducible refine Kd.C_alloc ?_ _) | (with_reducible refine Kd.C_drewN ?_ _) | (with_reducible refine Kd.C_drew ?_))); (case side8 => exact (Kd.R_reads' HO219.out).2.1); rintro e w47 ⟨rfl, hb⟩; have n0_ := Aside0.mk (Kd.R_below (kr_ HO189.out) hb); have n1_ := Aside0.mk (Kd.R_below (kr_ HO192.out) hb); have n2_ := Aside0.mk (Kd.R_below (kr_ HO203.out) hb); have n3_ := Aside0.mk (Kd.R_below (kr_ HO206.out) hb); have n4_ := Aside0.mk (Kd.R_below (kr_ HO216.out) hb); have n5_ := Aside0.mk (Kd.R_below (kr_ HO219.out) hb); have n6_ := Aside0.mk (below_step lb_ hb); clear HO189; clear HO192; clear HO203; clear HO206; clear HO216; clear HO219; clear HB; have HO189 := n0_; have HO192 := n1_; have HO203 := n2_; have HO206 := n3_; have HO216 := n4_; have HO219 := n5_; have HB := n6_; clear n0_ n1_ n2_ n3_ n4_ n5_ n6_; (try clear hb); (try clear hb2); (try clear hk); (try clear hi)) | ((with_reducible refine gate_dst (N := 9) rfl ?_); (try (refine gate_guard (by rfl) ?_; dsimp only)); (try (refine gate_guard (by rfl) ?_; dsimp only)); refine goesL_ (some 9) rfl rfl Try.func23 (by kernel_rfl) rfl #[] rfl (by (try simp only [List.map_toArray, List.map_cons, List.map_nil]); first | done | rfl) ?_; (with_reducible refine (althinglaw05_some.calls  t222 t223 t224 t225 t226 t227 t228 t231 t234 _ A8.out).mono ?_); rintro e w48 ⟨v229, v232, rfl, ho0, ho1, hb⟩; refine ⟨_, rfl, ?_⟩; have n0_ := Aside0.mk (Kd.R_elder' (kr_ HO189.out) (Kd.R_base ho0) hb); have n1_ := Aside0.mk (Kd.R_elder' (kr_ HO192.out) (Kd.R_base ho1) hb); have n2_ := Aside0.mk (Kd.R_elder' (kr_ HO203.out) (Kd.R_base ho0) hb); have n3_ := Aside0.mk (Kd.R_elder' (kr_ HO206.out) (Kd.R_base ho1) hb); have n4_ := Aside0.mk (Kd.R_elder' (kr_ HO216.out) (Kd.R_base ho0) hb); have n5_ := Aside0.mk (Kd.R_elder' (kr_ HO219.out) (Kd.R_base ho1) hb); have n6_ := Aside0.mk (Kd.R_lower (Kd.R_new' (Kd.R_new' (Kd.R_new' ho0 (Kd.R_lt (kr_ HO189.out))) (Kd.R_lt (kr_ HO203.out))) (Kd.R_lt (kr_ HO216.out))) (below_size lb_)); have n7_ := Aside0.mk (Kd.R_lower (Kd.R_new' (Kd.R_new' (Kd.R_new' ho1 (Kd.R_lt (kr_ HO192.out))) (Kd.R_lt (kr_ HO206.out))) (Kd.R_lt (kr_ HO219.out))) (below_size lb_)); have n8_ := Aside0.mk (below_step lb_ hb); clear HO189; clear HO192; clear HO203; clear HO206; clear HO216; clear HO219; clear HB; have HO189 := n0_; have HO192 := n1_; have HO203 := n2_; have HO206 := n3_; have HO216 := n4_; have HO219 := n5_; have HO230 := n6_; have HO233 := n7_; have HB := n8_; clear n0_ n1_ n2_ n3_ n4_ n5_ n6_ n7_ n8_; (try clear hb); (try clear hb2); (try clear hk); (try clear hi); (try clear ho0); (try clear ho1); obtain ⟨Ao49, co49, eo49⟩ := Kd.R_slice HO230.out; subst eo49; obtain ⟨Ao50, co50, eo50⟩ := Kd.R_slice HO233.out; subst eo50) | (go_at_call 24; (with_reducible refine (command_Keys.calls k t222 t223 t224 t225 t226 t227 _ _ t228 _ _ t231 t234 t235 _ ?side1 ?side2 ?side3 ?side4 A9.out).mono ?_); (case side1 => repeat (first | exact (Kd.R_reads' HO230.out).2.2 | (with_reducible refine Kd.C_alloc ?_ _) | (with_reducible refine Kd.C_drewN ?_ _) | (with_reducible refine Kd.C_drew ?_))); (case side2 => exact (Kd.R_reads' HO230.out).2.1); (case side3 => repeat (first | exact (Kd.R_reads' HO233.out).2.2 | (with_reducible refine Kd.C_alloc ?_ _) | (with_reducible refine Kd.C_drewN ?_ _) | (with_reducible refine Kd.C_drew ?_))); (case side4 => exact (Kd.R_reads' HO233.out).2.1); rintro e w51 ⟨v236, rfl, ho0, hb⟩; have n0_ := Aside0.mk (Kd.R_below (kr_ HO189.out) hb); have n1_ := Aside0.mk (Kd.R_below (kr_ HO192.out) hb); have n2_ := Aside0.mk (Kd.R_below (kr_ HO203.out) hb); have n3_ := Aside0.mk (Kd.R_below (kr_ HO206.out) hb); have n4_ := Aside0.mk (Kd.R_below (kr_ HO216.out) hb); have n5_ := Aside0.mk (Kd.R_below (kr_ HO219.out) hb); have n6_ := Aside0.mk (Kd.R_below (kr_ HO230.out) hb); have n7_ := Aside0.mk (Kd.R_below (kr_ HO233.out) hb); have n8_ := Aside0.mk (Kd.R_lower ho0 (below_size lb_)); have n9_ := Aside0.mk (below_step lb_ hb); clear HO189; clear HO192; clear HO203; clear HO206; clear HO216; clear HO219; clear HO230; clear HO233; clear HB; have HO189 := n0_; have HO192 := n1_; have HO203 := n2_; have HO206 := n3_; have HO216 := n4_; have HO219 := n5_; have HO230 := n6_; have HO233 := n7_; have HO237 := n8_; have HB := n9_; clear n0_ n1_ n2_ n3_ n4_ n5_ n6_ n7_ n8_ n9_; (try clear hb); (try clear hb2); (try clear hk); (try clear hi); (try clear ho0); obtain ⟨Ao52, co52, eo52⟩ := Kd.R_slice HO237.out; subst eo52))
       go_ret
       exact ⟨by first | rfl | (simp [errW_none, errW_some] <;> rfl) | (simp [*, errW_none, errW_some] <;> rfl), by repeat (first | (with_reducible first | exact HB.out | apply below_alloc | apply pw_below_drewN | apply below_drew1) | exact HB.out)⟩
   · replace c7 := Bool.eq_false_iff.mpr c7
     subst c7
     rw [if_neg (show ¬ (false = true) by decide)] at H
     obtain rfl := Option.some.inj H
     go_enter Try.func9, Try.ntmps9
     go_wp2_with (first | ((with_reducible refine gate_callee (f := 23) rfl ?_); refine goesL_ (some 1) rfl rfl Try.func23 (by kernel_rfl) rfl #[] rfl (by (try simp only [List.map_toArray, List.map_cons, List.map_nil]); first | done | rfl | (simp only [List.length_drop, List.length_take]; rfl)) ?_; (with_reducible refine (althinglaw05_some.calls  t181 t182 t183 t184 t185 t186 t187 t190 t193 _ A1.out).mono ?_); rintro e w53 ⟨v188, v191, rfl, ho0, ho1, hb⟩; refine ⟨_, rfl, ?_⟩; have n0_ := Aside0.mk (Kd.R_lower ho0 (below_size lb_)); have n1_ := Aside0.mk (Kd.R_lower ho1 (below_size lb_)); have n2_ := Aside0.mk (below_step lb_ hb); clear HB; have HO189 := n0_; have HO192 := n1_; have HB := n2_; clear n0_ n1_ n2_; (try clear hb); (try clear hb2); (try clear hk); (try clear hi); (try clear ho0); (try clear ho1); obtain ⟨Ao54, co54, eo54⟩ := Kd.R_slice HO189.out; subst eo54; obtain ⟨Ao55, co55, eo55⟩ := Kd.R_slice HO192.out; subst eo55) | ((with_reducible refine gate_callee (f := 14) rfl ?_); refine goesL_ (some 2) rfl rfl Try.func14 (by kernel_rfl) rfl #[.agg #[.int .i64 t181, .int .i64 t182, .int .i64 t183, .int .i64 t184, .int .i64 t185, .int .i64 t186, .slice Ao54 t187.length co54, .slice Ao55 t190.length co55, .bool t193]] rfl (by (try simp only [List.map_toArray, List.map_cons, List.map_nil]); first | done | rfl | (simp only [List.length_drop, List.length_take]; rfl)) ?_; (with_reducible refine (command_Right.calls k t181 t182 t183 t184 t185 t186 _ _ t187 _ _ t190 t193 true _ ?side1 ?side2 ?side3 ?side4 A2.out).mono ?_); (case side1 => repeat (first | exact (Kd.R_reads' HO189.out).2.2 | (with_reducible refine Kd.C_alloc ?_ _) | (with_reducible refine Kd.C_drewN ?_ _) | (with_reducible refine Kd.C_drew ?_))); (case side2 => exact (Kd.R_reads' HO189.out).2.1); (case side3 => repeat (first | exact (Kd.R_reads' HO192.out).2.2 | (with_reducible refine Kd.C_alloc ?_ _) | (with_reducible refine Kd.C_drewN ?_ _) | (with_reducible refine Kd.C_drew ?_))); (case side4 => exact (Kd.R_reads' HO192.out).2.1); rintro e w56 ⟨rfl, hb⟩; refine ⟨_, rfl, ?_⟩; have n0_ := Aside0.mk (Kd.R_below (kr_ HO189.out) hb); have n1_ := Aside0.mk (Kd.R_below (kr_ HO192.out) hb); have n2_ := Aside0.mk (below_step lb_ hb); clear HO189; clear HO192; clear HB; have HO189 := n0_; have HO192 := n1_; have HB := n2_; clear n0_ n1_ n2_; (try clear hb); (try clear hb2); (try clear hk); (try clear hi)) | ((with_reducible refine gate_dst (N := 4) rfl ?_); (try (refine gate_guard (by rfl) ?_; dsimp only)); (try (refine gate_guard (by rfl) ?_; dsimp only)); refine goesL_ (some 4) rfl rfl Try.func23 (by kernel_rfl) rfl #[] rfl (by (try simp only [List.map_toArray, List.map_cons, List.map_nil]); first | done | rfl) ?_; (with_reducible refine (althinglaw05_some.calls  t195 t196 t197 t198 t199 t200 t201 t204 t207 _ A4.out).mono ?_); rintro e w57 ⟨v202, v205, rfl, ho0, ho1, hb⟩; refine ⟨_, rfl, ?_⟩; have n0_ := Aside0.mk (Kd.R_elder' (kr_ HO189.out) (Kd.R_base ho0) hb); have n1_ := Aside0.mk (Kd.R_elder' (kr_ HO192.out) (Kd.R_base ho1) hb); have n2_ := Aside0.mk (Kd.R_lower (Kd.R_new' ho0 (Kd.R_lt (kr_ HO189.out))) (below_size lb_)); have n3_ := Aside0.mk (Kd.R_lower (Kd.R_new' ho1 (Kd.R_lt (kr_ HO192.out))) (below_size lb_)); have n4_ := Aside0.mk (below_step lb_ hb); clear HO189; clear HO192; clear HB; have HO189 := n0_; have HO192 := n1_; have HO203 := n2_; have HO206 := n3_; have HB := n4_; clear n0_ n1_ n2_ n3_ n4_; (try clear hb); (try clear hb2); (try clear hk); (try clear hi); (try clear ho0); (try clear ho1)) | ((with_reducible refine gate_dst (N := 5) rfl ?_); (try (refine gate_guard (by rfl) ?_; dsimp only)); (try (refine gate_guard (by rfl) ?_; dsimp only)); refine goesL_ (some 5) rfl rfl Try.func23 (by kernel_rfl) rfl #[] rfl (by (try simp only [List.map_toArray, List.map_cons, List.map_nil]); first | done | rfl) ?_; (with_reducible refine (althinglaw05_some.calls  t208 t209 t210 t211 t212 t213 t214 t217 t220 _ A5.out).mono ?_); rintro e w58 ⟨v215, v218, rfl, ho0, ho1, hb⟩; refine ⟨_, rfl, ?_⟩; have n0_ := Aside0.mk (Kd.R_elder' (kr_ HO189.out) (Kd.R_base ho0) hb); have n1_ := Aside0.mk (Kd.R_elder' (kr_ HO192.out) (Kd.R_base ho1) hb); have n2_ := Aside0.mk (Kd.R_elder' (kr_ HO203.out) (Kd.R_base ho0) hb); have n3_ := Aside0.mk (Kd.R_elder' (kr_ HO206.out) (Kd.R_base ho1) hb); have n4_ := Aside0.mk (Kd.R_lower (Kd.R_new' (Kd.R_new' ho0 (Kd.R_lt (kr_ HO189.out))) (Kd.R_lt (kr_ HO203.out))) (below_size lb_)); have n5_ := Aside0.mk (Kd.R_lower (Kd.R_new' (Kd.R_new' ho1 (Kd.R_lt (kr_ HO192.out))) (Kd.R_lt (kr_ HO206.out))) (below_size lb_)); have n6_ := Aside0.mk (below_step lb_ hb); clear HO189; clear HO192; clear HO203; clear HO206; clear HB; have HO189 := n0_; have HO192 := n1_; have HO203 := n2_; have HO206 := n3_; have HO216 := n4_; have HO219 := n5_; have HB := n6_; clear n0_ n1_ n2_ n3_ n4_ n5_ n6_; (try clear hb); (try clear hb2); (try clear hk); (try clear hi); (try clear ho0); (try clear ho1); obtain ⟨Ao59, co59, eo59⟩ := Kd.R_slice HO203.out; subst eo59; obtain ⟨Ao60, co60, eo60⟩ := Kd.R_slice HO206.out; subst eo60; obtain ⟨Ao61, co61, eo61⟩ := Kd.R_slice HO216.out; subst eo61; obtain ⟨Ao62, co62, eo62⟩ := Kd.R_slice HO219.out; subst eo62) | (go_at_call 13; (with_reducible refine (command_Interfere.calls k t195 t196 t197 t198 t199 t200 _ _ t201 _ _ t204 t207 t208 t209 t210 t211 t212 t213 _ _ t214 _ _ t217 t220 false _ ?side1 ?side2 ?side3 ?side4 ?side5 ?side6 ?side7 ?side8 A6.out).mono ?_); (case side1 => repeat (first | exact (Kd.R_reads' HO203.out).2.2 | (with_reducible refine Kd.C_alloc ?_ _) | (with_reducible refine Kd.C_drewN ?_ _) | (with_reducible refine Kd.C_drew ?_))); (case side2 => exact (Kd.R_reads' HO203.out).2.1); (case side3 => repeat (first | exact (Kd.R_reads' HO206.out).2.2 | (with_reducible refine Kd.C_alloc ?_ _) | (with_reducible refine Kd.C_drewN ?_ _) | (with_reducible refine Kd.C_drew ?_))); (case side4 => exact (Kd.R_reads' HO206.out).2.1); (case side5 => repeat (first | exact (Kd.R_reads' HO216.out).2.2 | (with_reducible refine Kd.C_alloc ?_ _) | (with_reducible refine Kd.C_drewN ?_ _) | (with_reducible refine Kd.C_drew ?_))); (case side6 => exact (Kd.R_reads' HO216.out).2.1); (case side7 => repeat (first | exact (Kd.R_reads' HO219.out).2.2 | (with_reducible refine Kd.C_alloc ?_ _) | (with_reducible refine Kd.C_drewN ?_ _) | (with_reducible refine Kd.C_drew ?_))); (case side8 => exact (Kd.R_reads' HO219.out).2.1); rintro e w63 ⟨rfl, hb⟩; have n0_ := Aside0.mk (Kd.R_below (kr_ HO189.out) hb); have n1_ := Aside0.mk (Kd.R_below (kr_ HO192.out) hb); have n2_ := Aside0.mk (Kd.R_below (kr_ HO203.out) hb); have n3_ := Aside0.mk (Kd.R_below (kr_ HO206.out) hb); have n4_ := Aside0.mk (Kd.R_below (kr_ HO216.out) hb); have n5_ := Aside0.mk (Kd.R_below (kr_ HO219.out) hb); have n6_ := Aside0.mk (below_step lb_ hb); clear HO189; clear HO192; clear HO203; clear HO206; clear HO216; clear HO219; clear HB; have HO189 := n0_; have HO192 := n1_; have HO203 := n2_; have HO206 := n3_; have HO216 := n4_; have HO219 := n5_; have HB := n6_; clear n0_ n1_ n2_ n3_ n4_ n5_ n6_; (try clear hb); (try clear hb2); (try clear hk); (try clear hi)))
     go_ret
     exact ⟨by first | rfl | (simp [errW_none, errW_some] <;> rfl) | (simp [*, errW_none, errW_some] <;> rfl), by repeat (first | (with_reducible first | exact HB.out | apply below_alloc | apply pw_below_drewN | apply below_drew1) | exact HB.out)⟩
 · replace c3 := Bool.eq_false_iff.mpr c3
   subst c3
   rw [if_neg (show ¬ (false = true) by decide)] at H
   obtain rfl := Option.some.inj H
   go_enter Try.func9, Try.ntmps9
   go_wp2_with (first | ((with_reducible refine gate_callee (f := 23) rfl ?_); refine goesL_ (some 1) rfl rfl Try.func23 (by kernel_rfl) rfl #[] rfl (by (try simp only [List.map_toArray, List.map_cons, List.map_nil]); first | done | rfl | (simp only [List.length_drop, List.length_take]; rfl)) ?_; (with_reducible refine (althinglaw05_some.calls  t181 t182 t183 t184 t185 t186 t187 t190 t193 _ A1.out).mono ?_); rintro e w64 ⟨v188, v191, rfl, ho0, ho1, hb⟩; refine ⟨_, rfl, ?_⟩; have n0_ := Aside0.mk (Kd.R_lower ho0 (below_size lb_)); have n1_ := Aside0.mk (Kd.R_lower ho1 (below_size lb_)); have n2_ := Aside0.mk (below_step lb_ hb); clear HB; have HO189 := n0_; have HO192 := n1_; have HB := n2_; clear n0_ n1_ n2_; (try clear hb); (try clear hb2); (try clear hk); (try clear hi); (try clear ho0); (try clear ho1); obtain ⟨Ao65, co65, eo65⟩ := Kd.R_slice HO189.out; subst eo65; obtain ⟨Ao66, co66, eo66⟩ := Kd.R_slice HO192.out; subst eo66) | ((with_reducible refine gate_callee (f := 14) rfl ?_); refine goesL_ (some 2) rfl rfl Try.func14 (by kernel_rfl) rfl #[.agg #[.int .i64 t181, .int .i64 t182, .int .i64 t183, .int .i64 t184, .int .i64 t185, .int .i64 t186, .slice Ao65 t187.length co65, .slice Ao66 t190.length co66, .bool t193]] rfl (by (try simp only [List.map_toArray, List.map_cons, List.map_nil]); first | done | rfl | (simp only [List.length_drop, List.length_take]; rfl)) ?_; (with_reducible refine (command_Right.calls k t181 t182 t183 t184 t185 t186 _ _ t187 _ _ t190 t193 false _ ?side1 ?side2 ?side3 ?side4 A2.out).mono ?_); (case side1 => repeat (first | exact (Kd.R_reads' HO189.out).2.2 | (with_reducible refine Kd.C_alloc ?_ _) | (with_reducible refine Kd.C_drewN ?_ _) | (with_reducible refine Kd.C_drew ?_))); (case side2 => exact (Kd.R_reads' HO189.out).2.1); (case side3 => repeat (first | exact (Kd.R_reads' HO192.out).2.2 | (with_reducible refine Kd.C_alloc ?_ _) | (with_reducible refine Kd.C_drewN ?_ _) | (with_reducible refine Kd.C_drew ?_))); (case side4 => exact (Kd.R_reads' HO192.out).2.1); rintro e w67 ⟨rfl, hb⟩; refine ⟨_, rfl, ?_⟩; have n0_ := Aside0.mk (Kd.R_below (kr_ HO189.out) hb); have n1_ := Aside0.mk (Kd.R_below (kr_ HO192.out) hb); have n2_ := Aside0.mk (below_step lb_ hb); clear HO189; clear HO192; clear HB; have HO189 := n0_; have HO192 := n1_; have HB := n2_; clear n0_ n1_ n2_; (try clear hb); (try clear hb2); (try clear hk); (try clear hi)))
   go_ret
   exact ⟨by first | rfl | (simp [errW_none, errW_some] <;> rfl) | (simp [*, errW_none, errW_some] <;> rfl), by repeat (first | (with_reducible first | exact HB.out | apply below_alloc | apply pw_below_drewN | apply below_drew1) | exact HB.out)⟩
end Go.Proofs.Ytnjeeedndnfglaa.X
end
section
namespace Go.Proofs.Ytnjeeedndnfglaa.Keys
open Go.RowKit
set_option linter.unusedSimpArgs false
set_option linter.unusedVariables false
theorem width_le (s : ByteArray) (pos : Nat) (h : pos < s.size) : pos + (Utf8.decode s pos).2 ≤ s.size := by
  rw [Lib.decode_at]
  have : (Lib.decodeN (s.size - pos) (s.get! pos).toNat (s.get! (pos + 1)).toNat (s.get! (pos + 2)).toNat (s.get! (pos + 3)).toNat).2 ≤ s.size - pos := by
    generalize (s.get! pos).toNat = b0
    generalize (s.get! (pos + 1)).toNat = b1
    generalize (s.get! (pos + 2)).toNat = b2
    generalize (s.get! (pos + 3)).toNat = b3
    unfold Lib.decodeN
    (repeat' split) <;> simp only <;> omega
  omega
/-- The runes from place pos on, b of them at most. -/
def rns (s : ByteArray) : Nat → Nat → List Int
  | 0, _ => []
  | b + 1, pos => if pos < s.size then ((Utf8.decode s pos).1 : Int) :: rns s b (pos + (Utf8.decode s pos).2) else []
def runes (s : ByteArray) : List Int := rns s s.size 0
theorem rns_end (s : ByteArray) (b pos : Nat) (h : ¬ pos < s.size) : rns s b pos = [] := by cases b <;> simp [rns, h]
theorem rns_len (s : ByteArray) : ∀ b pos, (rns s b pos).length ≤ s.size - pos
  | 0, _ => by simp [rns]
  | b + 1, pos => by
    unfold rns
    split
    · have := rns_len s b (pos + (Utf8.decode s pos).2)
      have := Lib.width_pos s pos
      simp only [List.length_cons]; omega
    · simp
theorem rns_range (s : ByteArray) : ∀ b pos, ∀ x ∈ rns s b pos, 0 ≤ x ∧ x ≤ 1114111
  | 0, _ => by simp [rns]
  | b + 1, pos => by
    unfold rns
    split
    · intro x hx
      rcases List.mem_cons.1 hx with rfl | hx
      · have := Lib.rune_le s pos; omega
      · exact rns_range s b _ x hx
    · simp
theorem runes_len (s : ByteArray) : (runes s).length ≤ s.size := by have := rns_len s s.size 0; unfold runes; omega
theorem runes_at (s : ByteArray) (i : Nat) : 0 ≤ (runes s).getD i 0 ∧ (runes s).getD i 0 ≤ 1114111 := by
  by_cases h : i < (runes s).length
  · have e : (runes s).getD i 0 = (runes s)[i] := by simp [List.getD_eq_getElem?_getD, h]
    rw [e]
    exact rns_range s s.size 0 _ (List.getElem_mem h)
  · have e : (runes s).getD i 0 = 0 := by simp [List.getD_eq_getElem?_getD, Nat.le_of_not_lt h]
    rw [e]; omega
def wsum (l : List Int) : Nat → Int
  | 0 => 0
  | k + 1 => wsum l k + ((k : Int) + 1) * l.getD k 0
def weight (s : ByteArray) : Int := wsum (runes s) (runes s).length
theorem wterm (k : Nat) (c : Int) (hk : k < 2000) (hc : 0 ≤ c ∧ c ≤ 1114111) : 0 ≤ ((k : Int) + 1) * c ∧ ((k : Int) + 1) * c ≤ 2228222000 := by
  refine ⟨Int.mul_nonneg (by omega) hc.1, ?_⟩
  calc ((k : Int) + 1) * c ≤ 2000 * c := Int.mul_le_mul_of_nonneg_right (by omega) hc.1
    _ ≤ 2228222000 := by omega
theorem wsum_range (l : List Int) (hl : ∀ i, 0 ≤ l.getD i 0 ∧ l.getD i 0 ≤ 1114111) : ∀ k, k ≤ 2000 → 0 ≤ wsum l k ∧ wsum l k ≤ 2228222000 * (k : Int)
  | 0, _ => by simp [wsum]
  | k + 1, h => by
    have ih := wsum_range l hl k (by omega)
    have ht := wterm k (l.getD k 0) (by omega) (hl k)
    unfold wsum
    omega
theorem weight_range (s : ByteArray) (hs : s.size ≤ 2000) : 0 ≤ weight s ∧ weight s ≤ 4456444000000 := by
  have hl := runes_len s
  have := wsum_range (runes s) (runes_at s) (runes s).length (by omega)
  unfold weight
  omega
end Go.Proofs.Ytnjeeedndnfglaa.Keys
end
section
namespace Go.Proofs.Ytnjeeedndnfglaa.Keys
open Go.RowKit Go.Proofs.YtnjeeedndnfglaaW.PrintWords Go.Proofs.YtnjeeedndnfglaaW.PrintLast Go.Proofs.YtnjeeedndnfglaaW.PrintMore Go.Proofs.Ytnjeeedndnfglaa.X
set_option linter.unusedSimpArgs false
set_option linter.unusedVariables false
theorem own_iter {w : World} {B e size n : Nat} {v : Value} {xs : List Value} {k : Nat} {s : ByteArray} {pos : Nat} (h : w.ownsRow B e size v n xs) (hk : w.heap[k]? = some (.stringIter s pos)) (pos' : Nat) : (w.iterAt k s pos').ownsRow B e size v n xs := by
  refine ⟨h.1, ?_⟩
  rcases h.2 with h0 | ⟨g, cap, cur, hv, hb, hg, rest⟩
  · exact .inl h0
  · refine .inr ⟨g, cap, cur, hv, hb, ?_, rest⟩
    rw [Lib.iterAt_other _ _ _ _ _ (fun e => by subst e; rw [hk] at hg; cases hg)]
    exact hg
theorem own_low {w : World} {B B' e size n : Nat} {v : Value} {xs : List Value} (h : w.ownsRow B e size v n xs) (hB : B' ≤ B) : w.ownsRow B' e size v n xs := by
  refine ⟨h.1, ?_⟩
  rcases h.2 with h0 | ⟨g, cap, cur, hv, hb, rest⟩
  · exact .inl h0
  · exact .inr ⟨g, cap, cur, hv, by omega, rest⟩
theorem own_cellsI {w : World} {base : Nat} {e : TypeId} {v : Value} {xs : List Int} (k : IntKind) (h : w.ownsRow base e 1 v xs.length (xs.map (Value.int k))) :
    ∃ A c, v = .slice A xs.length c ∧ ∀ j, j < xs.length → ∃ ad : Addr, A = some ad ∧ w.cell? (ad.add j) = some (.int k (xs.getD j 0)) ∧ ad.block < w.heap.size ∧ (ad.add j).block = ad.block := by
  rcases h.2 with ⟨rfl, h0⟩ | ⟨g, cap, cur, rfl, hg, hh, hn, _, hc, ht⟩
  · exact ⟨none, 0, by rw [h0], fun j hj => by omega⟩
  · refine ⟨_, cap, rfl, fun j hj => ⟨_, rfl, ?_⟩⟩
    have hj2 : j < cur.toList.length := by rw [Array.length_toList]; omega
    have e1 : (cur.toList.take (xs.length * 1))[j]? = (xs.map (Value.int k))[j]? := by rw [ht]
    rw [List.getElem?_take, if_pos (by omega), List.getElem?_map] at e1
    have e2 : xs[j]? = some (xs.getD j 0) := by simp [List.getD_eq_getElem?_getD, hj]
    rw [e2] at e1
    have h3 : w.cell? ⟨g, j, none⟩ = some (.int k (xs.getD j 0)) := by simp [World.cell?, hh]; simpa using e1
    have ha : (⟨g, 0, none⟩ : Addr).add j = ⟨g, j, none⟩ := by unfold Addr.add; split <;> simp_all
    rw [ha]
    exact ⟨h3, World.block_lt_of_cell? w ⟨g, j, none⟩ h3, rfl⟩
set_option maxRecDepth 1000000 in
set_option maxHeartbeats 4000000 in
theorem runes_any (s : ByteArray) (hs : s.size ≤ 2000) (w : World) :
    Calls Try.prog 59 #[.string s] w fun e w' => ∃ v, e = .returned v ∧ w'.ownsRow w.heap.size 21 1 v (runes s).length ((runes s).map (Value.int .i32)) ∧ Below w.heap.size w w' := by
  have hi : (Try.prog.info? 21).map (fun i => (i.zero, i.size, i.bytes)) = some (some (.int .i32 0), 1, 4) := by kernel_rfl
  have HI := Lib.hid hi
  clear hi
  go_enter Try.func59, Try.ntmps59
  go_wp2
  go_loopw [3] (fun v wr => ∃ (pos b : Nat) (acc : List Int), wr.heap[w.heap.size]? = some (.stringIter s pos) ∧ pos ≤ s.size ∧ acc.length ≤ pos ∧ s.size ≤ pos + b ∧ Hid (acc ++ rns s b pos = runes s) ∧ Hid (wr.ownsRow (w.heap.size + 1) 21 1 v acc.length (acc.map (Value.int .i32))) ∧ Hid (Below w.heap.size w wr)) (fun _ wr => s.size - wr.iterPos w.heap.size)
  case atStart => exact ⟨0, s.size, [], World.iter_heap w s 0, by omega, by simp, by omega, Lib.hid rfl, Lib.hid (own_none _ _ _ _), Lib.hid ((Below.refl _ w).alloc (Nat.le_refl _) _)⟩
  case round =>
    obtain ⟨pos, b, acc, hit, hpos, hacc, hfu, HL, HO, HB⟩ := hrel
    by_cases hps : pos < s.size
    · obtain ⟨b, rfl⟩ : ∃ b', b = b' + 1 := ⟨b - 1, by omega⟩
      have hnx : ∀ ty, (Instr.next (.pointer (some ⟨w.heap.size, 0, none⟩)) true ty).run Try.prog wr = _ := fun ty => Lib.run_next_any_at wr w.heap.size s pos ty hit hps
      have hwd := Lib.width_pos s pos
      have hwl := width_le s pos hps
      have hL2 := HL.out
      rw [rns, if_pos hps] at hL2
      obtain ⟨R, hR⟩ : ∃ R, (Utf8.decode s pos).1 = R := ⟨_, rfl⟩
      obtain ⟨K, hK⟩ : ∃ K, (Utf8.decode s pos).2 = K := ⟨_, rfl⟩
      rw [hR, hK] at hnx hL2
      rw [hK] at hwd hwl
      have HL3 := Lib.hid hL2
      have hit2 := Lib.iterAt_heap wr w.heap.size s pos (pos + K) hit
      have hbw2 := Lib.below_iterAt HB.out (k := w.heap.size) (Nat.le_refl _) s (pos + K)
      have hown2 := own_iter HO.out hit (pos + K)
      have hip : wr.iterPos w.heap.size = pos := by simp [World.iterPos, hit]
      clear hL2 hR hK HL HO HB hit
      obtain ⟨W, hWd⟩ : ∃ W, wr.iterAt w.heap.size s (pos + K) = W := ⟨_, rfl⟩
      rw [hWd] at hnx hit2 hbw2 hown2
      have HB2 := Lib.hid hbw2
      have HO2 := Lib.hid hown2
      have hsz2 : w.heap.size + 1 ≤ W.heap.size := (Array.getElem?_eq_some_iff.1 hit2).1
      clear hbw2 hown2
      go_wp2_with (at_builtin; refine append_one (w0 := W) (w.heap.size + 1) rfl (.tmp 11) (.tmp 13) 76 21 (.int .i32 0) 1 4 rfl Try.underlying76 HI.out rfl (by decide) (by decide) _ _ _ [.int .i32 (R : Int)] rfl rfl rfl (by simp [Value.oneCell']) HO2.out (Below.refl _ _) hsz2 (by omega) ?_; intro v1 w2 hown3 hb3 hs2; have HO3 := Lib.hid hown3; have HB3 := Lib.hid hb3; clear hown3 hb3)
      go_roundw
      case rel => exact ⟨pos + K, b, acc ++ [(R : Int)], (HB3.out.block _ (by omega)).trans hit2, hwl, (by simp only [List.length_append, List.length_singleton]; omega), (by omega), Lib.hid (by rw [List.append_assoc]; exact HL3.out), Lib.hid (by simpa using HO3.out), Lib.hid (HB2.out.trans (HB3.out.mono (by omega)))⟩
      case measure =>
        have : w2.iterPos w.heap.size = pos + K := by rw [World.iterPos, (HB3.out.block _ (by omega)).trans hit2]
        rw [hip, this]; omega
    · have hnx : ∀ ty, (Instr.next (.pointer (some ⟨w.heap.size, 0, none⟩)) true ty).run Try.prog wr = _ := fun ty => Lib.run_next_end_at wr w.heap.size s pos ty hit hps
      have hL2 := HL.out
      rw [rns_end s b pos hps, List.append_nil] at hL2
      subst hL2
      go_wp2
      go_ret
      exact ⟨_, rfl, own_low HO.out (by omega), HB.out⟩
set_option maxRecDepth 1000000 in
set_option maxHeartbeats 4000000 in
theorem weight_any (s : ByteArray) (hs : s.size ≤ 2000) (x : Int) (hx : x = weight s) (w : World) :
    Calls Try.prog 52 #[.string s] w fun e w' => e = .returned (.int .i64 x) ∧ Below w.heap.size w w' := by
  have hl := runes_len s
  have HX := Lib.hid hx
  clear hx
  go_enter Try.func52, Try.ntmps52
  go_wp2_with (go_at_call 59; refine (runes_any s hs _).mono ?_; rintro e w2 ⟨v, rfl, hown, hb2⟩; obtain ⟨A, c, rfl, hcs⟩ := own_cellsI .i32 hown; have KC := Lib.hid hcs; have HB := Lib.hid hb2; clear hown hcs hb2)
  have HX2 : Hid (x = wsum (runes s) (runes s).length) := Lib.hid (by rw [HX.out]; rfl)
  have HR := Lib.hid (runes_at s)
  clear HX
  generalize runes s = l at hl KC HX2 HR
  obtain ⟨L, hL⟩ : ∃ L, l.length = L := ⟨_, rfl⟩
  rw [hL] at KC hl HX2
  rw [hL]
  clear hL
  go_loopw [3, 9] (fun n i wr => ∃ j : Nat, j ≤ L ∧ i = .int .i64 j ∧ n = .int .i64 (wsum l j) ∧ Hid (Below w2.heap.size w2 wr)) (fun _ i _ => L - (intOf i).toNat)
  case atStart => exact ⟨0, by omega, rfl, rfl, Lib.hid (Below.refl _ _)⟩
  case round =>
    obtain ⟨j, hj, rfl, rfl, hb⟩ := hrel
    by_cases hlt : j < L
    · obtain ⟨ad, rfl, hc1, hk1, ha1⟩ := KC.out j hlt
      have hcell : wr.cell? (ad.add j) = some (.int .i32 (l.getD j 0)) := by
        rw [hb.out.cell (p := ad.add j) (by rw [ha1]; exact hk1), hc1]
      have hr := HR.out j
      have hsum := wsum_range l HR.out j (by omega)
      have hterm := wterm j (l.getD j 0) (by omega) hr
      have hstep : wsum l (j + 1) = wsum l j + ((j : Int) + 1) * l.getD j 0 := rfl
      clear hc1 hk1 ha1
      generalize l.getD j 0 = z at hcell hr hterm hstep
      obtain ⟨y, hy⟩ : ∃ y : Int, y = ((j : Int) + 1) * z := ⟨_, rfl⟩
      rw [← hy] at hterm hstep
      have HY := Lib.hid hy
      have HST := Lib.hid hstep
      clear hy hstep
      go_wp2
      go_roundw
      case rel => exact ⟨j + 1, by omega, by go_num, by rw [HST.out]; simp only [go_sem, wrap64, IntKind.wrap_i64]; rw [← HY.out]; congr 1; omega, hb⟩
      case measure => simp [intOf]; omega
    · have e : j = L := by omega
      subst e
      go_wp2
      go_ret
      exact ⟨ret_int HX2.out.symm, HB.out.trans (hb.out.mono HB.out.size)⟩
/-- May a text be a key? -/
def okKey (s : ByteArray) : Bool := decide (1 ≤ s.size ∧ s.size ≤ 8)
theorem right_is (s : ByteArray) (x : Bool) (hx : x = okKey s) (w : World) :
    Calls Try.prog 51 #[.string s] w fun e w' => e = .returned (.bool x) ∧ Below w.heap.size w w' := by
  refine (keys_Right.calls s x w ?_).mono fun e w' h => ⟨h.1, h.2.below⟩
  unfold keys_Right.f
  rw [hx]; unfold okKey
  split
  · rw [Option.some.injEq, decide_eq_decide]; omega
  · simp; omega
def shardN (s : ByteArray) (m : Int) : Int := if okKey s = true ∧ 1 ≤ m ∧ m ≤ 4 then weight s % m else 0
def shardE (s : ByteArray) (m : Int) : Int := if okKey s = true ∧ 1 ≤ m ∧ m ≤ 4 then 0 else 1
theorem ret_two {a b c d : Int} {k k' : IntKind} (h : a = b) (h' : c = d) : Ending.returned (.tuple #[.int k a, .int k' c]) = .returned (.tuple #[.int k b, .int k' d]) := by rw [h, h']
theorem ok_size {s : ByteArray} (h : okKey s = true) : s.size ≤ 2000 := by
  have := of_decide_eq_true h
  omega
set_option maxRecDepth 1000000 in
set_option maxHeartbeats 4000000 in
theorem shard_is (s : ByteArray) (m : Int) (n e : Int) (hn : n = shardN s m) (he : e = shardE s m) (w : World) :
    Calls Try.prog 35 #[.string s, .int .i64 m] w fun x w' => x = .returned (.tuple #[.int .i64 n, .int .i64 e]) ∧ Below w.heap.size w w' := by
  cases hk : okKey s with
  | false =>
    have hn0 : n = 0 := by rw [hn]; simp [shardN, hk]
    have he0 : e = 1 := by rw [he]; simp [shardE, hk]
    subst hn0 he0
    clear hn he
    go_enter Try.func35, Try.ntmps35
    go_wp2_with (go_at_call 51; refine (right_is s false hk.symm _).mono ?_; rintro e w1 ⟨rfl, hb⟩)
    go_ret2
    exact ⟨rfl, hb⟩
  | true =>
    have hs := ok_size hk
    by_cases h1 : m < 1
    · have hn0 : n = 0 := by rw [hn]; unfold shardN; rw [if_neg (by omega)]
      have he0 : e = 1 := by rw [he]; unfold shardE; rw [if_neg (by omega)]
      have d1 : decide (m < 1) = true := decide_eq_true h1
      subst hn0 he0
      clear hn he
      go_enter Try.func35, Try.ntmps35
      go_wp2_with (go_at_call 51; refine (right_is s true hk.symm _).mono ?_; rintro e w1 ⟨rfl, hb⟩)
      go_ret2
      exact ⟨rfl, hb⟩
    · have d1 : decide (m < 1) = false := decide_eq_false h1
      by_cases h4 : 4 < m
      · have hn0 : n = 0 := by rw [hn]; unfold shardN; rw [if_neg (by omega)]
        have he0 : e = 1 := by rw [he]; unfold shardE; rw [if_neg (by omega)]
        have d4 : decide (4 < m) = true := decide_eq_true h4
        subst hn0 he0
        clear hn he
        go_enter Try.func35, Try.ntmps35
        go_wp2_with (go_at_call 51; refine (right_is s true hk.symm _).mono ?_; rintro e w1 ⟨rfl, hb⟩)
        go_ret2
        exact ⟨rfl, hb⟩
      · have d4 : decide (4 < m) = false := decide_eq_false h4
        have hw := weight_range s hs
        obtain ⟨W, hW⟩ : ∃ W : Int, W = weight s := ⟨_, rfl⟩
        have hn0 : n = W % m := by rw [hn, hW]; unfold shardN; rw [if_pos ⟨hk, by omega, by omega⟩]
        have he0 : e = 0 := by rw [he]; unfold shardE; rw [if_pos ⟨hk, by omega, by omega⟩]
        rw [← hW] at hw
        have HW := Lib.hid hW
        have HN := Lib.hid hn0
        have hm0 : ¬ m = 0 := by omega
        subst he0
        clear hn he hn0 hW
        go_enter Try.func35, Try.ntmps35
        go_wp2_with (first | (go_at_call 51; refine (right_is s true hk.symm _).mono ?_; rintro e w1 ⟨rfl, hb⟩) | (go_at_call 52; refine (weight_any s hs W HW.out _).mono ?_; rintro e w2 ⟨rfl, hb2⟩))
        go_ret2
        exact ⟨ret_two HN.out.symm rfl, hb.trans (hb2.mono hb.size)⟩
end Go.Proofs.Ytnjeeedndnfglaa.Keys
end
section
namespace Go.Proofs.Ytnjeeedndnfglaa.X
open Go.RowKit Go.Proofs.Ytnjeeedndnfglaa.Keys Go.Proofs.YtnjeeedndnfglaaW.PrintWords Go.Proofs.YtnjeeedndnfglaaW.PrintLast Go.Proofs.YtnjeeedndnfglaaW.PrintMore
set_option linter.unusedVariables false
def keys_Runes.f (a0 : ByteArray) : Option (List Int) := if a0.size ≤ 2000 then some (runes a0) else none
theorem keys_Runes.calls (a0 : ByteArray) (r : List Int) (w : World) (h : keys_Runes.f a0 = some r) :
    Calls Try.prog 59 #[.string a0] w fun e w' => ∃ v0_ : Value, e = .returned (v0_) ∧ Kd.R (Kd.int .i32) 21 w' w.heap.size (fun _ => True) v0_ r ∧ Below w.heap.size w w' := by
  unfold keys_Runes.f at h
  by_cases hs : a0.size ≤ 2000
  · rw [if_pos hs] at h
    obtain rfl := Option.some.inj h
    refine (runes_any a0 hs w).mono ?_
    rintro e w' ⟨v, rfl, ho, hB⟩
    exact ⟨v, rfl, Kd.R_of_own ho (fun _ _ => trivial), hB⟩
  · rw [if_neg hs] at h; cases h
def keys_Weight.f (a0 : ByteArray) : Option Int := if a0.size ≤ 2000 then some (weight a0) else none
theorem keys_Weight.calls (a0 : ByteArray) (r : Int) (w : World) (h : keys_Weight.f a0 = some r) :
    Calls Try.prog 52 #[.string a0] w fun e w' => e = .returned (.int .i64 r) ∧ Below w.heap.size w w' := by
  unfold keys_Weight.f at h
  by_cases hs : a0.size ≤ 2000
  · rw [if_pos hs] at h
    exact weight_any a0 hs r (Option.some.inj h).symm w
  · rw [if_neg hs] at h; cases h
def keys_Shard.f (a0 : ByteArray) (a1 : Int) : Option (Int × Int) := some (shardN a0 a1, shardE a0 a1)
theorem keys_Shard.calls (a0 : ByteArray) (a1 : Int) (r1 : Int) (r2 : Int) (w : World) (h : keys_Shard.f a0 a1 = some (r1, r2)) :
    Calls Try.prog 35 #[.string a0, .int .i64 a1] w fun e w' => e = .returned (.tuple #[.int .i64 r1, .int .i64 r2]) ∧ Below w.heap.size w w' := by
  injection h with h; injection h with h1 h2
  exact shard_is a0 a1 r1 r2 h1.symm h2.symm w
end Go.Proofs.Ytnjeeedndnfglaa.X
end
section
namespace Go.Proofs.Ytnjeeedndnfglaa.X
open Go.RowKit Go.Proofs.Ytnjeeedndnfglaa.Keys Go.Proofs.YtnjeeedndnfglaaW.PrintWords Go.Proofs.YtnjeeedndnfglaaW.PrintLast Go.Proofs.YtnjeeedndnfglaaW.PrintMore
set_option linter.unusedVariables false
set_option linter.unusedSimpArgs false
def command_Part_1.f (a0 : ByteArray) (a1 : Int) (a2 : Int) : Option (Bool) := some (decide (shardE a0 a1 = 0) && decide (shardN a0 a1 = a2))
set_option maxHeartbeats 2000000 in
theorem command_Part_1.calls {g1 g2 : Nat} (a0 : ByteArray) (a1 : Int) (a2 : Int) (r : Bool) (w : World)
    (hg1 : CapC w g1 0 (.int .i64 a1)) (hg2 : CapC w g2 0 (.int .i64 a2)) (h : command_Part_1.f a0 a1 a2 = some r) :
    Calls Try.prog 34 #[.string a0, .pointer (some ⟨g1, 0, none⟩), .pointer (some ⟨g2, 0, none⟩)] w fun e w' => e = .returned (.bool r) ∧ Below w.heap.size w w' := by
  have H1 := Aside0.mk hg1
  have H2 := Aside0.mk hg2
  obtain rfl := Option.some.inj h
  have c1 : w.cell? ⟨g1, 0, none⟩ = some (.int .i64 a1) := hg1.cell
  have c2 : w.cell? ⟨g2, 0, none⟩ = some (.int .i64 a2) := hg2.cell
  have f1 := hg1.frozen
  have f2 := hg2.frozen
  clear h hg1 hg2
  go_enter Try.func34, Try.ntmps34
  go_wp2_with (go_at_call 35; refine (keys_Shard.calls a0 a1 (shardN a0 a1) (shardE a0 a1) _ rfl).mono ?_; rintro e w1 ⟨rfl, hb⟩; have c3 : w1.cell? ⟨g2, 0, none⟩ = some (.int .i64 a2) := (H2.out.below hb).cell; have f3 := (H2.out.below hb).frozen)
  all_goals (go_ret; refine ⟨?_, hb⟩; first | rfl | (simp [*]; done) | (simp [*]; rfl))
end Go.Proofs.Ytnjeeedndnfglaa.X
end
section
namespace Go.Proofs.Ytnjeeedndnfglaa.X
open Go.RowKit Go.Proofs.YtnjeeedndnfglaaW.PrintWords Go.Proofs.YtnjeeedndnfglaaW.PrintLast Go.Proofs.YtnjeeedndnfglaaW.PrintMore
attribute [local go_sem] max2_int min2_int max_two min_two max_three min_three max_four min_four   -- for this text's walks alone
set_option linter.unusedVariables false
set_option linter.unusedSimpArgs false
/-! ### command_Part: function 15 -/
mutual
def command_Part.j0 : Nat → Bool → Int → Int → Int → Int → Int → Int → List (S38) → List (S40) → Bool → Int → Int → Option (Int × Int × Int × Int × Int × Int × (List (S38)) × (List (S40)) × Bool × Int)
 | 0, _, _, _, _, _, _, _, _, _, _, _, _ => none
 | k + 1, x29, x405000, x405001, x405002, x405003, x405004, x405005, x405006, x405007, x405008, x406000, x407000 => if x29 = true then (some (0, 0, 0, 0, 0, 0, ([] : List (S38)), ([] : List (S40)), false, 1)) else (command_Part.l0 k x405006 (x405006.length : Int) 0 x405000 x405001 x405002 x405003 x405004 x405005 x405006 x405007 x405008 x406000 x407000 x405000 x405001 x405002 x405003 x405004 x405005 ([] : List (S38)) x405008)
def command_Part.l0 : Nat → List (S38) → Int → Int → Int → Int → Int → Int → Int → Int → List (S38) → List (S40) → Bool → Int → Int → Int → Int → Int → Int → Int → Int → List (S38) → Bool → Option (Int × Int × Int × Int × Int × Int × (List (S38)) × (List (S40)) × Bool × Int)
 | 0, _, _, _, _, _, _, _, _, _, _, _, _, _, _, _, _, _, _, _, _, _, _ => none
 | k + 1, x36, x37, x38, x405000, x405001, x405002, x405003, x405004, x405005, x405006, x405007, x405008, x406000, x407000, x410000, x410001, x410002, x410003, x410004, x410005, x410006, x410008 => if x38 < x37 then (if 0 ≤ x38 then (if x38 < (x36.length : Int) then ((command_Part_1.f ((rd_T38 x36 x38).f0) x407000 x406000).bind fun t412 => (if t412 = true then (if x410006.length < 4398046511104 then (command_Part.l0 k x36 x37 (wrap64 (x38 + 1)) x405000 x405001 x405002 x405003 x405004 x405005 x405006 x405007 x405008 x406000 x407000 x410000 x410001 x410002 x410003 x410004 x410005 (x410006 ++ [(⟨(rd_T38 x36 x38).f0, (⟨(rd_T38 x36 x38).f1.f0, (rd_T38 x36 x38).f1.f1⟩ : S25)⟩ : S38)]) x410008) else (none)) else (command_Part.l0 k x36 x37 (wrap64 (x38 + 1)) x405000 x405001 x405002 x405003 x405004 x405005 x405006 x405007 x405008 x406000 x407000 x410000 x410001 x410002 x410003 x410004 x410005 x410006 x410008))) else (none)) else (none)) else (command_Part.l1 k x405007 (x405007.length : Int) 0 x406000 x407000 x410000 x410001 x410002 x410003 x410004 x410005 x410006 ([] : List (S40)) x410008)
def command_Part.l1 : Nat → List (S40) → Int → Int → Int → Int → Int → Int → Int → Int → Int → Int → List (S38) → List (S40) → Bool → Option (Int × Int × Int × Int × Int × Int × (List (S38)) × (List (S40)) × Bool × Int)
 | 0, _, _, _, _, _, _, _, _, _, _, _, _, _, _ => none
 | k + 1, x54, x55, x56, x406000, x407000, x410000, x410001, x410002, x410003, x410004, x410005, x410006, x410007, x410008 => if x56 < x55 then (if 0 ≤ x56 then (if x56 < (x54.length : Int) then ((command_Part_1.f ((rd_T40 x54 x56).f0) x407000 x406000).bind fun t418 => (if t418 = true then (if x410007.length < 4398046511104 then (command_Part.l1 k x54 x55 (wrap64 (x56 + 1)) x406000 x407000 x410000 x410001 x410002 x410003 x410004 x410005 x410006 (x410007 ++ [(⟨(rd_T40 x54 x56).f0, (rd_T40 x54 x56).f1⟩ : S40)]) x410008) else (none)) else (command_Part.l1 k x54 x55 (wrap64 (x56 + 1)) x406000 x407000 x410000 x410001 x410002 x410003 x410004 x410005 x410006 x410007 x410008))) else (none)) else (none)) else (if (wrap64 ((x410006.length : Int) + (x410007.length : Int))) = 0 then (some (0, 0, 0, 0, 0, 0, ([] : List (S38)), ([] : List (S40)), false, 10)) else (some (x410000, x410001, x410002, x410003, x410004, x410005, x410006, x410007, x410008, 0)))
end
def command_Part.f (k : Nat) (a0_0 : Int) (a0_1 : Int) (a0_2 : Int) (a0_3 : Int) (a0_4 : Int) (a0_5 : Int) (l0_6 : List (S38)) (l0_7 : List (S40)) (a0_8 : Bool) (a1 : Int) (a2 : Int) : Option (Int × Int × Int × Int × Int × Int × (List (S38)) × (List (S40)) × Bool × Int) := (command_Right.f k a0_0 a0_1 a0_2 a0_3 a0_4 a0_5 l0_6 l0_7 a0_8).bind fun t408 => (if t408 = true then (if a0_0 = 0 then (command_Part.j0 k true a0_0 a0_1 a0_2 a0_3 a0_4 a0_5 l0_6 l0_7 a0_8 a1 a2) else (if a2 < 1 then (command_Part.j0 k true a0_0 a0_1 a0_2 a0_3 a0_4 a0_5 l0_6 l0_7 a0_8 a1 a2) else (command_Part.j0 k (decide (a2 > 4)) a0_0 a0_1 a0_2 a0_3 a0_4 a0_5 l0_6 l0_7 a0_8 a1 a2))) else (command_Part.j0 k true a0_0 a0_1 a0_2 a0_3 a0_4 a0_5 l0_6 l0_7 a0_8 a1 a2))
set_option maxHeartbeats 8000000 in
set_option maxRecDepth 100000 in
theorem command_Part.calls (k : Nat) (a0_0 : Int) (a0_1 : Int) (a0_2 : Int) (a0_3 : Int) (a0_4 : Int) (a0_5 : Int) (A0_6 : Option Addr) (c0_6 : Nat) (l0_6 : List (S38)) (A0_7 : Option Addr) (c0_7 : Nat) (l0_7 : List (S40)) (a0_8 : Bool) (a1 : Int) (a2 : Int) (r1 : Int) (r2 : Int) (r3 : Int) (r4 : Int) (r5 : Int) (r6 : Int) (r7 : List (S38)) (r8 : List (S40)) (r9 : Bool) (r10 : Int) (w : World) (hr0_6 : Kd.C k38 w A0_6 l0_6.length l0_6) (hc0_6 : l0_6.length ≤ c0_6) (hr0_7 : Kd.C k40 w A0_7 l0_7.length l0_7) (hc0_7 : l0_7.length ≤ c0_7) (h : command_Part.f k a0_0 a0_1 a0_2 a0_3 a0_4 a0_5 l0_6 l0_7 a0_8 a1 a2 = some (r1, r2, r3, r4, r5, r6, r7, r8, r9, r10)) :
 Calls Try.prog 15 #[.agg #[.int .i64 a0_0, .int .i64 a0_1, .int .i64 a0_2, .int .i64 a0_3, .int .i64 a0_4, .int .i64 a0_5, .slice A0_6 l0_6.length c0_6, .slice A0_7 l0_7.length c0_7, .bool a0_8], .int .i64 a1, .int .i64 a2] w fun e w' => ∃ v6_ v7_ : Value, e = .returned (.tuple #[.agg #[.int .i64 r1, .int .i64 r2, .int .i64 r3, .int .i64 r4, .int .i64 r5, .int .i64 r6, v6_, v7_, .bool r9], .int .i64 r10]) ∧ Kd.R k38 38 w' w.heap.size (fun _ => True) v6_ r7 ∧ Kd.R k40 40 w' w.heap.size (fun _ => True) v7_ r8 ∧ Below w.heap.size w w' := by
 have hu29 := Try.underlying29
 have hu38 := Try.underlying38
 have hu40 := Try.underlying40
 have HR0_6 := Aside0.mk hr0_6
 have HC0_6 := Aside0.mk hc0_6
 clear hr0_6 hc0_6
 have HR0_7 := Aside0.mk hr0_7
 have HC0_7 := Aside0.mk hc0_7
 clear hr0_7 hc0_7
 have HB := Aside0.mk (Below.refl w.heap.size w)
 have H : ((command_Right.f k a0_0 a0_1 a0_2 a0_3 a0_4 a0_5 l0_6 l0_7 a0_8).bind fun t408 => (if t408 = true then (if a0_0 = 0 then (command_Part.j0 k true a0_0 a0_1 a0_2 a0_3 a0_4 a0_5 l0_6 l0_7 a0_8 a1 a2) else (if a2 < 1 then (command_Part.j0 k true a0_0 a0_1 a0_2 a0_3 a0_4 a0_5 l0_6 l0_7 a0_8 a1 a2) else (command_Part.j0 k (decide (a2 > 4)) a0_0 a0_1 a0_2 a0_3 a0_4 a0_5 l0_6 l0_7 a0_8 a1 a2))) else (command_Part.j0 k true a0_0 a0_1 a0_2 a0_3 a0_4 a0_5 l0_6 l0_7 a0_8 a1 a2))) = some (r1, r2, r3, r4, r5, r6, r7, r8, r9, r10) := h
 clear h
 have HC4 := Aside0.mk H
 clear H
 go_enter Try.func15, Try.ntmps15
 go_upto_region 1 with (first | ((with_reducible refine gate_dst (N := 3) rfl ?_); refine box_event ?hg (N := 3) ?hd (cs := #[.int .i64 a0_0, .int .i64 a0_1, .int .i64 a0_2, .int .i64 a0_3, .int .i64 a0_4, .int .i64 a0_5, .slice A0_6 l0_6.length c0_6, .slice A0_7 l0_7.length c0_7, .bool a0_8]) (t := 29) ?hr ?_; (case hd => rfl); (case hg => rfl); (case hr => first | (go_simp; done) | (go_simp; rfl)); intro gb404 hg w5 hbox hb; have n0_ := Aside0.mk (below_step lb_ hb); have n1_ := Aside0.mk (hbox); have n2_ := Aside0.mk ((by rw [hg]; exact (below_size lb_) : w.heap.size ≤ gb404)); have n3_ := Aside0.mk ((by rw [hg]; exact (below_size lb_) : w.heap.size ≤ gb404)); clear HB; have HB := n0_; have BK404 := n1_; have GW404 := n2_; have GE404 := n3_; clear n0_ n1_ n2_ n3_; clear hb hbox hg) | ((with_reducible refine gate_dst (N := 4) rfl ?_); refine box_event ?hg (N := 4) ?hd (cs := #[.int .i64 a1]) (t := 3) ?hr ?_; (case hd => rfl); (case hg => rfl); (case hr => first | (go_simp; done) | (go_simp; rfl)); intro gb405 hg w6 hbox hb; have n0_ := Aside0.mk (blk_below (kb_ BK404.out) hb); have n1_ := Aside0.mk (below_step (by repeat (first | (with_reducible first | exact HB.out | apply below_alloc | apply pw_below_drewN | apply below_drew1 | refine below_set ?_ GE404.out) | exact HB.out)) hb); have n2_ := Aside0.mk (hbox); have n3_ := Aside0.mk ((by rw [hg]; exact (below_size (by repeat (first | (with_reducible first | exact HB.out | apply below_alloc | apply pw_below_drewN | apply below_drew1 | refine below_set ?_ GE404.out) | exact HB.out))) : w.heap.size ≤ gb405)); have n4_ := Aside0.mk ((by rw [hg]; exact (below_size (by repeat (first | (with_reducible first | exact HB.out | apply below_alloc | apply pw_below_drewN | apply below_drew1 | refine below_set ?_ GE404.out) | exact HB.out))) : w.heap.size ≤ gb405)); have n5_ := Aside0.mk ((by rw [hg]; exact Nat.ne_of_lt (blk_lt (kb_ BK404.out)) : gb404 ≠ gb405)); have n6_ := Aside0.mk ((by rw [hg]; exact Nat.ne_of_gt (blk_lt (kb_ BK404.out)) : gb405 ≠ gb404)); clear BK404; clear HB; have BK404 := n0_; have HB := n1_; have BK405 := n2_; have GW405 := n3_; have GE405 := n4_; have NB404_405 := n5_; have NB405_404 := n6_; clear n0_ n1_ n2_ n3_ n4_ n5_ n6_; clear hb hbox hg) | ((with_reducible refine gate_dst (N := 5) rfl ?_); refine box_event ?hg (N := 5) ?hd (cs := #[.int .i64 a2]) (t := 3) ?hr ?_; (case hd => rfl); (case hg => rfl); (case hr => first | (go_simp; done) | (go_simp; rfl)); intro gb406 hg w7 hbox hb; have n0_ := Aside0.mk (blk_below (kb_ BK404.out) hb); have n1_ := Aside0.mk (blk_below (kb_ BK405.out) hb); have n2_ := Aside0.mk (below_step (by repeat (first | (with_reducible first | exact HB.out | apply below_alloc | apply pw_below_drewN | apply below_drew1 | refine below_set ?_ GE404.out | refine below_set ?_ GE405.out) | exact HB.out)) hb); have n3_ := Aside0.mk (hbox); have n4_ := Aside0.mk ((by rw [hg]; exact (below_size (by repeat (first | (with_reducible first | exact HB.out | apply below_alloc | apply pw_below_drewN | apply below_drew1 | refine below_set ?_ GE404.out | refine below_set ?_ GE405.out) | exact HB.out))) : w.heap.size ≤ gb406)); have n5_ := Aside0.mk ((by rw [hg]; exact (below_size (by repeat (first | (with_reducible first | exact HB.out | apply below_alloc | apply pw_below_drewN | apply below_drew1 | refine below_set ?_ GE404.out | refine below_set ?_ GE405.out) | exact HB.out))) : w.heap.size ≤ gb406)); have n6_ := Aside0.mk ((by rw [hg]; exact Nat.ne_of_lt (blk_lt (kb_ BK404.out)) : gb404 ≠ gb406)); have n7_ := Aside0.mk ((by rw [hg]; exact Nat.ne_of_gt (blk_lt (kb_ BK404.out)) : gb406 ≠ gb404)); have n8_ := Aside0.mk ((by rw [hg]; exact Nat.ne_of_lt (blk_lt (kb_ BK405.out)) : gb405 ≠ gb406)); have n9_ := Aside0.mk ((by rw [hg]; exact Nat.ne_of_gt (blk_lt (kb_ BK405.out)) : gb406 ≠ gb405)); clear BK404; clear BK405; clear HB; have BK404 := n0_; have BK405 := n1_; have HB := n2_; have BK406 := n3_; have GW406 := n4_; have GE406 := n5_; have NB404_406 := n6_; have NB406_404 := n7_; have NB405_406 := n8_; have NB406_405 := n9_; clear n0_ n1_ n2_ n3_ n4_ n5_ n6_ n7_ n8_ n9_; clear hb hbox hg) | ((with_reducible refine gate_dst (N := 6) rfl ?_); refine box_event ?hg (N := 6) ?hd (cs := #[.int .i64 0, .int .i64 0, .int .i64 0, .int .i64 0, .int .i64 0, .int .i64 0, .slice none 0 0, .slice none 0 0, .bool false]) (t := 29) ?hr ?_; (case hd => rfl); (case hg => rfl); (case hr => first | (go_simp; done) | (go_simp; rfl)); intro gb407 hg w8 hbox hb; have n0_ := Aside0.mk (blk_below (kb_ BK404.out) hb); have n1_ := Aside0.mk (blk_below (kb_ BK405.out) hb); have n2_ := Aside0.mk (blk_below (kb_ BK406.out) hb); have n3_ := Aside0.mk (below_step (by repeat (first | (with_reducible first | exact HB.out | apply below_alloc | apply pw_below_drewN | apply below_drew1 | refine below_set ?_ GE404.out | refine below_set ?_ GE405.out | refine below_set ?_ GE406.out) | exact HB.out)) hb); have n4_ := Aside0.mk (hbox); have n5_ := Aside0.mk ((by rw [hg]; exact (below_size (by repeat (first | (with_reducible first | exact HB.out | apply below_alloc | apply pw_below_drewN | apply below_drew1 | refine below_set ?_ GE404.out | refine below_set ?_ GE405.out | refine below_set ?_ GE406.out) | exact HB.out))) : w.heap.size ≤ gb407)); have n6_ := Aside0.mk ((by rw [hg]; exact (below_size (by repeat (first | (with_reducible first | exact HB.out | apply below_alloc | apply pw_below_drewN | apply below_drew1 | refine below_set ?_ GE404.out | refine below_set ?_ GE405.out | refine below_set ?_ GE406.out) | exact HB.out))) : w.heap.size ≤ gb407)); have n7_ := Aside0.mk ((by rw [hg]; exact Nat.ne_of_lt (blk_lt (kb_ BK404.out)) : gb404 ≠ gb407)); have n8_ := Aside0.mk ((by rw [hg]; exact Nat.ne_of_gt (blk_lt (kb_ BK404.out)) : gb407 ≠ gb404)); have n9_ := Aside0.mk ((by rw [hg]; exact Nat.ne_of_lt (blk_lt (kb_ BK405.out)) : gb405 ≠ gb407)); have n10_ := Aside0.mk ((by rw [hg]; exact Nat.ne_of_gt (blk_lt (kb_ BK405.out)) : gb407 ≠ gb405)); have n11_ := Aside0.mk ((by rw [hg]; exact Nat.ne_of_lt (blk_lt (kb_ BK406.out)) : gb406 ≠ gb407)); have n12_ := Aside0.mk ((by rw [hg]; exact Nat.ne_of_gt (blk_lt (kb_ BK406.out)) : gb407 ≠ gb406)); clear BK404; clear BK405; clear BK406; clear HB; have BK404 := n0_; have BK405 := n1_; have BK406 := n2_; have HB := n3_; have BK407 := n4_; have GW407 := n5_; have GE407 := n6_; have NB404_407 := n7_; have NB407_404 := n8_; have NB405_407 := n9_; have NB407_405 := n10_; have NB406_407 := n11_; have NB407_406 := n12_; clear n0_ n1_ n2_ n3_ n4_ n5_ n6_ n7_ n8_ n9_ n10_ n11_ n12_; clear hb hbox hg))
 (try simp only [Act.put, List.setIfInBounds_toArray, List.set_cons_zero, List.set_cons_succ])
 go_cut [29] (fun v29 wc => ∃ (kq : Nat) (x29_3 : Bool), v29 = .bool x29_3 ∧ Aside0 (command_Part.j0 kq x29_3 a0_0 a0_1 a0_2 a0_3 a0_4 a0_5 l0_6 l0_7 a0_8 a1 a2 = some (r1, r2, r3, r4, r5, r6, r7, r8, r9, r10)) ∧ Aside0 (kq ≤ k) ∧ Aside0 (wc.heap[gb404]? = some (.cells #[.int .i64 a0_0, .int .i64 a0_1, .int .i64 a0_2, .int .i64 a0_3, .int .i64 a0_4, .int .i64 a0_5, (.slice A0_6 l0_6.length c0_6), (.slice A0_7 l0_7.length c0_7), .bool a0_8] 29 (0, 0))) ∧ Aside0 (wc.heap[gb405]? = some (.cells #[.int .i64 a1] 3 (0, 0))) ∧ Aside0 (wc.heap[gb406]? = some (.cells #[.int .i64 a2] 3 (0, 0))) ∧ Aside0 (wc.heap[gb407]? = some (.cells #[.int .i64 0, .int .i64 0, .int .i64 0, .int .i64 0, .int .i64 0, .int .i64 0, (.slice none 0 0), (.slice none 0 0), .bool false] 29 (0, 0))) ∧ Aside0 (Below w.heap.size w wc))
 case first =>
  have H := HC4.out
  clear HC4
  obtain ⟨t408, A9, H⟩ := bs_ H
  by_cases c10 : t408 = true
  · subst c10
    rw [if_pos rfl] at H
    by_cases c11 : a0_0 = 0
    · rw [if_pos c11] at H
      have c11b0 : (a0_0 == 0) = true := beq_iff_eq.mpr c11
      have c11b1 : (a0_0 != 0) = false := bne_eq_false_iff_eq.mpr c11
      clear c11
      (first | rw [c11b0] | (simp only [i64_w, i32_w]; rw [c11b0]) | skip)
      have H' := Aside0.mk H
      clear H
      go_wp2_with (first | ((with_reducible refine gate_dst (N := 14) rfl ?_); refine blk_load_event ?lg (N := 14) ?ld (t := 29) (x := ?lxxz12) ?lo (g := gb404) ?lx (cs := _) BK404.out ?lD ?lt ?_; (case lg => rfl); (case ld => rfl); (case lo => rfl); (case lx => first | rfl | (go_simp; done) | (go_simp; rfl)); (case lD => exact ⟨_, Try.underlying29, rfl⟩); (case lt => kernel_rfl)) | ((with_reducible refine gate_callee (f := 14) rfl ?_); refine goesL_ (some 15) rfl rfl Try.func14 (by kernel_rfl) rfl #[.agg #[.int .i64 a0_0, .int .i64 a0_1, .int .i64 a0_2, .int .i64 a0_3, .int .i64 a0_4, .int .i64 a0_5, .slice A0_6 l0_6.length c0_6, .slice A0_7 l0_7.length c0_7, .bool a0_8]] rfl (by (try simp only [List.map_toArray, List.map_cons, List.map_nil]); first | done | rfl | (simp only [List.length_drop, List.length_take]; rfl)) ?_; (with_reducible refine (command_Right.calls k a0_0 a0_1 a0_2 a0_3 a0_4 a0_5 _ _ l0_6 _ _ l0_7 a0_8 true _ ?side1 ?side2 ?side3 ?side4 A9.out).mono ?_); (case side1 => exact kc_ (Kd.C_below HR0_6.out HB.out)); (case side2 => exact HC0_6.out); (case side3 => exact kc_ (Kd.C_below HR0_7.out HB.out)); (case side4 => exact HC0_7.out); rintro e w13 ⟨rfl, hb⟩; refine ⟨_, rfl, ?_⟩; have n0_ := Aside0.mk (blk_below (kb_ BK404.out) hb); have n1_ := Aside0.mk (blk_below (kb_ BK405.out) hb); have n2_ := Aside0.mk (blk_below (kb_ BK406.out) hb); have n3_ := Aside0.mk (blk_below (kb_ BK407.out) hb); have n4_ := Aside0.mk (below_step (by repeat (first | (with_reducible first | exact HB.out | apply below_alloc | apply pw_below_drewN | apply below_drew1 | refine below_set ?_ GE404.out | refine below_set ?_ GE405.out | refine below_set ?_ GE406.out | refine below_set ?_ GE407.out) | exact HB.out)) hb); clear BK404; clear BK405; clear BK406; clear BK407; clear HB; have BK404 := n0_; have BK405 := n1_; have BK406 := n2_; have BK407 := n3_; have HB := n4_; clear n0_ n1_ n2_ n3_ n4_; (try clear hb); (try clear hb2); (try clear hk); (try clear hi); have hnb14 := NB404_405.out; have hnc14 := NB405_404.out; have hnb15 := NB404_406.out; have hnc15 := NB406_404.out; have hnb16 := NB404_407.out; have hnc16 := NB407_404.out; refine blk9_ BK404.out fun hcz17_0 hcz17_1 hcz17_2 hcz17_3 hcz17_4 hcz17_5 hcz17_6 hcz17_7 hcz17_8 hfz17_0 hfz17_1 hfz17_2 hfz17_3 hfz17_4 hfz17_5 hfz17_6 hfz17_7 hfz17_8 => ?_))
      go_meet
      case rel => exact ⟨_, (true), (by first | rfl | (simp; done) | (simp [*]; done)), H', ⟨by first | omega | exact Nat.le_refl _⟩, ⟨by (with_reducible repeat (first | refine blk_drewN ?_ _ | refine blk_drew ?_ | refine blk_alloc ?_ _)); exact BK404.out⟩, ⟨by (with_reducible repeat (first | refine blk_drewN ?_ _ | refine blk_drew ?_ | refine blk_alloc ?_ _)); exact BK405.out⟩, ⟨by (with_reducible repeat (first | refine blk_drewN ?_ _ | refine blk_drew ?_ | refine blk_alloc ?_ _)); exact BK406.out⟩, ⟨by (with_reducible repeat (first | refine blk_drewN ?_ _ | refine blk_drew ?_ | refine blk_alloc ?_ _)); exact BK407.out⟩, ⟨by repeat (first | (with_reducible first | exact HB.out | apply below_alloc | apply pw_below_drewN | apply below_drew1 | refine below_set ?_ GE404.out | refine below_set ?_ GE405.out | refine below_set ?_ GE406.out | refine below_set ?_ GE407.out) | exact HB.out)⟩⟩
    · rw [if_neg c11] at H
      have c11b0 : (a0_0 == 0) = false := beq_eq_false_iff_ne.mpr c11
      have c11b1 : (a0_0 != 0) = true := bne_iff_ne.mpr c11
      (first | rw [c11b0] | (simp only [i64_w, i32_w]; rw [c11b0]) | skip)
      by_cases c18 : a2 < 1
      · rw [if_pos c18] at H
        have c18b0 : decide (a2 < 1) = true := decide_eq_true c18
        clear c18
        have H' := Aside0.mk H
        clear H
        go_wp2_with (first | ((with_reducible refine gate_dst (N := 14) rfl ?_); refine blk_load_event ?lg (N := 14) ?ld (t := 29) (x := ?lxxz19) ?lo (g := gb404) ?lx (cs := _) BK404.out ?lD ?lt ?_; (case lg => rfl); (case ld => rfl); (case lo => rfl); (case lx => first | rfl | (go_simp; done) | (go_simp; rfl)); (case lD => exact ⟨_, Try.underlying29, rfl⟩); (case lt => kernel_rfl)) | ((with_reducible refine gate_callee (f := 14) rfl ?_); refine goesL_ (some 15) rfl rfl Try.func14 (by kernel_rfl) rfl #[.agg #[.int .i64 a0_0, .int .i64 a0_1, .int .i64 a0_2, .int .i64 a0_3, .int .i64 a0_4, .int .i64 a0_5, .slice A0_6 l0_6.length c0_6, .slice A0_7 l0_7.length c0_7, .bool a0_8]] rfl (by (try simp only [List.map_toArray, List.map_cons, List.map_nil]); first | done | rfl | (simp only [List.length_drop, List.length_take]; rfl)) ?_; (with_reducible refine (command_Right.calls k a0_0 a0_1 a0_2 a0_3 a0_4 a0_5 _ _ l0_6 _ _ l0_7 a0_8 true _ ?side1 ?side2 ?side3 ?side4 A9.out).mono ?_); (case side1 => exact kc_ (Kd.C_below HR0_6.out HB.out)); (case side2 => exact HC0_6.out); (case side3 => exact kc_ (Kd.C_below HR0_7.out HB.out)); (case side4 => exact HC0_7.out); rintro e w20 ⟨rfl, hb⟩; refine ⟨_, rfl, ?_⟩; have n0_ := Aside0.mk (blk_below (kb_ BK404.out) hb); have n1_ := Aside0.mk (blk_below (kb_ BK405.out) hb); have n2_ := Aside0.mk (blk_below (kb_ BK406.out) hb); have n3_ := Aside0.mk (blk_below (kb_ BK407.out) hb); have n4_ := Aside0.mk (below_step (by repeat (first | (with_reducible first | exact HB.out | apply below_alloc | apply pw_below_drewN | apply below_drew1 | refine below_set ?_ GE404.out | refine below_set ?_ GE405.out | refine below_set ?_ GE406.out | refine below_set ?_ GE407.out) | exact HB.out)) hb); clear BK404; clear BK405; clear BK406; clear BK407; clear HB; have BK404 := n0_; have BK405 := n1_; have BK406 := n2_; have BK407 := n3_; have HB := n4_; clear n0_ n1_ n2_ n3_ n4_; (try clear hb); (try clear hb2); (try clear hk); (try clear hi); have hnb21 := NB404_405.out; have hnc21 := NB405_404.out; have hnb22 := NB404_406.out; have hnc22 := NB406_404.out; have hnb23 := NB404_407.out; have hnc23 := NB407_404.out; refine blk9_ BK404.out fun hcz24_0 hcz24_1 hcz24_2 hcz24_3 hcz24_4 hcz24_5 hcz24_6 hcz24_7 hcz24_8 hfz24_0 hfz24_1 hfz24_2 hfz24_3 hfz24_4 hfz24_5 hfz24_6 hfz24_7 hfz24_8 => ?_; have hnb25 := NB406_405.out; have hnc25 := NB405_406.out; have hnb26 := NB406_407.out; have hnc26 := NB407_406.out; have hcz27_0 : w20.cell? ⟨gb406, 0, none⟩ = some (.int .i64 a2) := (blk_cell BK406.out 0).trans rfl; have hfz27_0 := blk_frozen BK406.out 0))
        go_meet
        case rel => exact ⟨_, (true), (by first | rfl | (simp; done) | (simp [*]; done)), H', ⟨by first | omega | exact Nat.le_refl _⟩, ⟨by (with_reducible repeat (first | refine blk_drewN ?_ _ | refine blk_drew ?_ | refine blk_alloc ?_ _)); exact BK404.out⟩, ⟨by (with_reducible repeat (first | refine blk_drewN ?_ _ | refine blk_drew ?_ | refine blk_alloc ?_ _)); exact BK405.out⟩, ⟨by (with_reducible repeat (first | refine blk_drewN ?_ _ | refine blk_drew ?_ | refine blk_alloc ?_ _)); exact BK406.out⟩, ⟨by (with_reducible repeat (first | refine blk_drewN ?_ _ | refine blk_drew ?_ | refine blk_alloc ?_ _)); exact BK407.out⟩, ⟨by repeat (first | (with_reducible first | exact HB.out | apply below_alloc | apply pw_below_drewN | apply below_drew1 | refine below_set ?_ GE404.out | refine below_set ?_ GE405.out | refine below_set ?_ GE406.out | refine below_set ?_ GE407.out) | exact HB.out)⟩⟩
      · rw [if_neg c18] at H
        have c18b0 : decide (a2 < 1) = false := decide_eq_false c18
        clear c18
        have H' := Aside0.mk H
        clear H
        go_wp2_with (first | ((with_reducible refine gate_dst (N := 14) rfl ?_); refine blk_load_event ?lg (N := 14) ?ld (t := 29) (x := ?lxxz28) ?lo (g := gb404) ?lx (cs := _) BK404.out ?lD ?lt ?_; (case lg => rfl); (case ld => rfl); (case lo => rfl); (case lx => first | rfl | (go_simp; done) | (go_simp; rfl)); (case lD => exact ⟨_, Try.underlying29, rfl⟩); (case lt => kernel_rfl)) | ((with_reducible refine gate_callee (f := 14) rfl ?_); refine goesL_ (some 15) rfl rfl Try.func14 (by kernel_rfl) rfl #[.agg #[.int .i64 a0_0, .int .i64 a0_1, .int .i64 a0_2, .int .i64 a0_3, .int .i64 a0_4, .int .i64 a0_5, .slice A0_6 l0_6.length c0_6, .slice A0_7 l0_7.length c0_7, .bool a0_8]] rfl (by (try simp only [List.map_toArray, List.map_cons, List.map_nil]); first | done | rfl | (simp only [List.length_drop, List.length_take]; rfl)) ?_; (with_reducible refine (command_Right.calls k a0_0 a0_1 a0_2 a0_3 a0_4 a0_5 _ _ l0_6 _ _ l0_7 a0_8 true _ ?side1 ?side2 ?side3 ?side4 A9.out).mono ?_); (case side1 => exact kc_ (Kd.C_below HR0_6.out HB.out)); (case side2 => exact HC0_6.out); (case side3 => exact kc_ (Kd.C_below HR0_7.out HB.out)); (case side4 => exact HC0_7.out); rintro e w29 ⟨rfl, hb⟩; refine ⟨_, rfl, ?_⟩; have n0_ := Aside0.mk (blk_below (kb_ BK404.out) hb); have n1_ := Aside0.mk (blk_below (kb_ BK405.out) hb); have n2_ := Aside0.mk (blk_below (kb_ BK406.out) hb); have n3_ := Aside0.mk (blk_below (kb_ BK407.out) hb); have n4_ := Aside0.mk (below_step (by repeat (first | (with_reducible first | exact HB.out | apply below_alloc | apply pw_below_drewN | apply below_drew1 | refine below_set ?_ GE404.out | refine below_set ?_ GE405.out | refine below_set ?_ GE406.out | refine below_set ?_ GE407.out) | exact HB.out)) hb); clear BK404; clear BK405; clear BK406; clear BK407; clear HB; have BK404 := n0_; have BK405 := n1_; have BK406 := n2_; have BK407 := n3_; have HB := n4_; clear n0_ n1_ n2_ n3_ n4_; (try clear hb); (try clear hb2); (try clear hk); (try clear hi); have hnb30 := NB404_405.out; have hnc30 := NB405_404.out; have hnb31 := NB404_406.out; have hnc31 := NB406_404.out; have hnb32 := NB404_407.out; have hnc32 := NB407_404.out; refine blk9_ BK404.out fun hcz33_0 hcz33_1 hcz33_2 hcz33_3 hcz33_4 hcz33_5 hcz33_6 hcz33_7 hcz33_8 hfz33_0 hfz33_1 hfz33_2 hfz33_3 hfz33_4 hfz33_5 hfz33_6 hfz33_7 hfz33_8 => ?_; have hnb34 := NB406_405.out; have hnc34 := NB405_406.out; have hnb35 := NB406_407.out; have hnc35 := NB407_406.out; have hcz36_0 : w29.cell? ⟨gb406, 0, none⟩ = some (.int .i64 a2) := (blk_cell BK406.out 0).trans rfl; have hfz36_0 := blk_frozen BK406.out 0))
        go_meet
        case rel => exact ⟨_, (decide (a2 > 4)), (by first | rfl | (simp; done) | (simp [*]; done)), H', ⟨by first | omega | exact Nat.le_refl _⟩, ⟨by (with_reducible repeat (first | refine blk_drewN ?_ _ | refine blk_drew ?_ | refine blk_alloc ?_ _)); exact BK404.out⟩, ⟨by (with_reducible repeat (first | refine blk_drewN ?_ _ | refine blk_drew ?_ | refine blk_alloc ?_ _)); exact BK405.out⟩, ⟨by (with_reducible repeat (first | refine blk_drewN ?_ _ | refine blk_drew ?_ | refine blk_alloc ?_ _)); exact BK406.out⟩, ⟨by (with_reducible repeat (first | refine blk_drewN ?_ _ | refine blk_drew ?_ | refine blk_alloc ?_ _)); exact BK407.out⟩, ⟨by repeat (first | (with_reducible first | exact HB.out | apply below_alloc | apply pw_below_drewN | apply below_drew1 | refine below_set ?_ GE404.out | refine below_set ?_ GE405.out | refine below_set ?_ GE406.out | refine below_set ?_ GE407.out) | exact HB.out)⟩⟩
  · replace c10 := Bool.eq_false_iff.mpr c10
    subst c10
    rw [if_neg (show ¬ (false = true) by decide)] at H
    have H' := Aside0.mk H
    clear H
    go_wp2_with (first | ((with_reducible refine gate_dst (N := 14) rfl ?_); refine blk_load_event ?lg (N := 14) ?ld (t := 29) (x := ?lxxz37) ?lo (g := gb404) ?lx (cs := _) BK404.out ?lD ?lt ?_; (case lg => rfl); (case ld => rfl); (case lo => rfl); (case lx => first | rfl | (go_simp; done) | (go_simp; rfl)); (case lD => exact ⟨_, Try.underlying29, rfl⟩); (case lt => kernel_rfl)) | ((with_reducible refine gate_callee (f := 14) rfl ?_); refine goesL_ (some 15) rfl rfl Try.func14 (by kernel_rfl) rfl #[.agg #[.int .i64 a0_0, .int .i64 a0_1, .int .i64 a0_2, .int .i64 a0_3, .int .i64 a0_4, .int .i64 a0_5, .slice A0_6 l0_6.length c0_6, .slice A0_7 l0_7.length c0_7, .bool a0_8]] rfl (by (try simp only [List.map_toArray, List.map_cons, List.map_nil]); first | done | rfl | (simp only [List.length_drop, List.length_take]; rfl)) ?_; (with_reducible refine (command_Right.calls k a0_0 a0_1 a0_2 a0_3 a0_4 a0_5 _ _ l0_6 _ _ l0_7 a0_8 false _ ?side1 ?side2 ?side3 ?side4 A9.out).mono ?_); (case side1 => exact kc_ (Kd.C_below HR0_6.out HB.out)); (case side2 => exact HC0_6.out); (case side3 => exact kc_ (Kd.C_below HR0_7.out HB.out)); (case side4 => exact HC0_7.out); rintro e w38 ⟨rfl, hb⟩; refine ⟨_, rfl, ?_⟩; have n0_ := Aside0.mk (blk_below (kb_ BK404.out) hb); have n1_ := Aside0.mk (blk_below (kb_ BK405.out) hb); have n2_ := Aside0.mk (blk_below (kb_ BK406.out) hb); have n3_ := Aside0.mk (blk_below (kb_ BK407.out) hb); have n4_ := Aside0.mk (below_step (by repeat (first | (with_reducible first | exact HB.out | apply below_alloc | apply pw_below_drewN | apply below_drew1 | refine below_set ?_ GE404.out | refine below_set ?_ GE405.out | refine below_set ?_ GE406.out | refine below_set ?_ GE407.out) | exact HB.out)) hb); clear BK404; clear BK405; clear BK406; clear BK407; clear HB; have BK404 := n0_; have BK405 := n1_; have BK406 := n2_; have BK407 := n3_; have HB := n4_; clear n0_ n1_ n2_ n3_ n4_; (try clear hb); (try clear hb2); (try clear hk); (try clear hi)))
    go_meet
    case rel => exact ⟨_, (true), (by first | rfl | (simp; done) | (simp [*]; done)), H', ⟨by first | omega | exact Nat.le_refl _⟩, ⟨by (with_reducible repeat (first | refine blk_drewN ?_ _ | refine blk_drew ?_ | refine blk_alloc ?_ _)); exact BK404.out⟩, ⟨by (with_reducible repeat (first | refine blk_drewN ?_ _ | refine blk_drew ?_ | refine blk_alloc ?_ _)); exact BK405.out⟩, ⟨by (with_reducible repeat (first | refine blk_drewN ?_ _ | refine blk_drew ?_ | refine blk_alloc ?_ _)); exact BK406.out⟩, ⟨by (with_reducible repeat (first | refine blk_drewN ?_ _ | refine blk_drew ?_ | refine blk_alloc ?_ _)); exact BK407.out⟩, ⟨by repeat (first | (with_reducible first | exact HB.out | apply below_alloc | apply pw_below_drewN | apply below_drew1 | refine below_set ?_ GE404.out | refine below_set ?_ GE405.out | refine below_set ?_ GE406.out | refine below_set ?_ GE407.out) | exact HB.out)⟩⟩
 case rest =>
  clear HC4
  try clear c1
  try clear c2
  try clear p2
  try clear c3
  try clear c10
  try clear c11
  try clear c11b0
  try clear c11b1
  try clear c14
  try clear c15
  try clear c16
  try clear c18
  try clear c18b0
  try clear c21
  try clear c22
  try clear c23
  try clear c25
  try clear c26
  try clear c30
  try clear c31
  try clear c32
  try clear c34
  try clear c35
  try clear hcz17_0 hcz17_1 hcz17_2 hcz17_3 hcz17_4 hcz17_5 hcz17_6 hcz17_7 hcz17_8
  try clear hcz24_0 hcz24_1 hcz24_2 hcz24_3 hcz24_4 hcz24_5 hcz24_6 hcz24_7 hcz24_8
  try clear hcz27_0
  try clear hcz33_0 hcz33_1 hcz33_2 hcz33_3 hcz33_4 hcz33_5 hcz33_6 hcz33_7 hcz33_8
  try clear hcz36_0
  try clear hfz17_0 hfz17_1 hfz17_2 hfz17_3 hfz17_4 hfz17_5 hfz17_6 hfz17_7 hfz17_8
  try clear hfz24_0 hfz24_1 hfz24_2 hfz24_3 hfz24_4 hfz24_5 hfz24_6 hfz24_7 hfz24_8
  try clear hfz27_0
  try clear hfz33_0 hfz33_1 hfz33_2 hfz33_3 hfz33_4 hfz33_5 hfz33_6 hfz33_7 hfz33_8
  try clear hfz36_0
  obtain ⟨kq, x29_3, rfl, HA, HJ3, BK404, BK405, BK406, BK407, HB⟩ := hcut
  cases kq with
  | zero => exact absurd HA.out (by simp [command_Part.j0])
  | succ kj3 =>
   have H := HA.out
   clear HA
   simp only [command_Part.j0] at H
   by_cases c39 : x29_3 = true
   · subst c39
     rw [if_pos rfl] at H
     simp only [Option.some.injEq, Prod.mk.injEq] at H
     obtain ⟨rfl, rfl, rfl, rfl, rfl, rfl, rfl, rfl, rfl, rfl⟩ := H
     have hnb40 := NB407_404.out
     have hnc40 := NB404_407.out
     have hnb41 := NB407_405.out
     have hnc41 := NB405_407.out
     have hnb42 := NB407_406.out
     have hnc42 := NB406_407.out
     refine blk9_ BK407.out fun hcz43_0 hcz43_1 hcz43_2 hcz43_3 hcz43_4 hcz43_5 hcz43_6 hcz43_7 hcz43_8 hfz43_0 hfz43_1 hfz43_2 hfz43_3 hfz43_4 hfz43_5 hfz43_6 hfz43_7 hfz43_8 => ?_
     go_wp2_with (first | ((with_reducible refine gate_store (t := 29) (p := 6) rfl ?_); refine store_event (t := 29) (p := 6) (v := ?vo_w44) (w1 := (((((((((wc.setCell ⟨gb407, 0, none⟩ (.int .i64 0)).setCell ⟨gb407, 1, none⟩ (.int .i64 0)).setCell ⟨gb407, 2, none⟩ (.int .i64 0)).setCell ⟨gb407, 3, none⟩ (.int .i64 0)).setCell ⟨gb407, 4, none⟩ (.int .i64 0)).setCell ⟨gb407, 5, none⟩ (.int .i64 0)).setCell ⟨gb407, 6, none⟩ (.slice none 0 0)).setCell ⟨gb407, 7, none⟩ (.slice none 0 0)).setCell ⟨gb407, 8, none⟩ (.bool false))) ?hg ?ho ?hn ?hr ?_; (case ho => rfl); (case hg => rfl); (case hn => rfl); (case hr => first | (go_simp; done) | (go_simp; rfl)); intro w44 hw; have n0_ : Aside0 (w44.heap[gb404]? = some (.cells #[.int .i64 a0_0, .int .i64 a0_1, .int .i64 a0_2, .int .i64 a0_3, .int .i64 a0_4, .int .i64 a0_5, .slice A0_6 l0_6.length c0_6, .slice A0_7 l0_7.length c0_7, .bool a0_8] 29 (0, 0))) := ⟨(by rw [hw]; exact (by (with_reducible repeat (first | refine blk_drewN ?_ _ | refine blk_drew ?_ | refine blk_alloc ?_ _)); refine blk_far ?_ NB404_407.out _; (with_reducible repeat (first | refine blk_drewN ?_ _ | refine blk_drew ?_ | refine blk_alloc ?_ _)); refine blk_far ?_ NB404_407.out _; (with_reducible repeat (first | refine blk_drewN ?_ _ | refine blk_drew ?_ | refine blk_alloc ?_ _)); refine blk_far ?_ NB404_407.out _; (with_reducible repeat (first | refine blk_drewN ?_ _ | refine blk_drew ?_ | refine blk_alloc ?_ _)); refine blk_far ?_ NB404_407.out _; (with_reducible repeat (first | refine blk_drewN ?_ _ | refine blk_drew ?_ | refine blk_alloc ?_ _)); refine blk_far ?_ NB404_407.out _; (with_reducible repeat (first | refine blk_drewN ?_ _ | refine blk_drew ?_ | refine blk_alloc ?_ _)); refine blk_far ?_ NB404_407.out _; (with_reducible repeat (first | refine blk_drewN ?_ _ | refine blk_drew ?_ | refine blk_alloc ?_ _)); refine blk_far ?_ NB404_407.out _; (with_reducible repeat (first | refine blk_drewN ?_ _ | refine blk_drew ?_ | refine blk_alloc ?_ _)); refine blk_far ?_ NB404_407.out _; (with_reducible repeat (first | refine blk_drewN ?_ _ | refine blk_drew ?_ | refine blk_alloc ?_ _)); refine blk_far ?_ NB404_407.out _; (with_reducible repeat (first | refine blk_drewN ?_ _ | refine blk_drew ?_ | refine blk_alloc ?_ _)); exact BK404.out))⟩; have n1_ : Aside0 (w44.heap[gb405]? = some (.cells #[.int .i64 a1] 3 (0, 0))) := ⟨(by rw [hw]; exact (by (with_reducible repeat (first | refine blk_drewN ?_ _ | refine blk_drew ?_ | refine blk_alloc ?_ _)); refine blk_far ?_ NB405_407.out _; (with_reducible repeat (first | refine blk_drewN ?_ _ | refine blk_drew ?_ | refine blk_alloc ?_ _)); refine blk_far ?_ NB405_407.out _; (with_reducible repeat (first | refine blk_drewN ?_ _ | refine blk_drew ?_ | refine blk_alloc ?_ _)); refine blk_far ?_ NB405_407.out _; (with_reducible repeat (first | refine blk_drewN ?_ _ | refine blk_drew ?_ | refine blk_alloc ?_ _)); refine blk_far ?_ NB405_407.out _; (with_reducible repeat (first | refine blk_drewN ?_ _ | refine blk_drew ?_ | refine blk_alloc ?_ _)); refine blk_far ?_ NB405_407.out _; (with_reducible repeat (first | refine blk_drewN ?_ _ | refine blk_drew ?_ | refine blk_alloc ?_ _)); refine blk_far ?_ NB405_407.out _; (with_reducible repeat (first | refine blk_drewN ?_ _ | refine blk_drew ?_ | refine blk_alloc ?_ _)); refine blk_far ?_ NB405_407.out _; (with_reducible repeat (first | refine blk_drewN ?_ _ | refine blk_drew ?_ | refine blk_alloc ?_ _)); refine blk_far ?_ NB405_407.out _; (with_reducible repeat (first | refine blk_drewN ?_ _ | refine blk_drew ?_ | refine blk_alloc ?_ _)); refine blk_far ?_ NB405_407.out _; (with_reducible repeat (first | refine blk_drewN ?_ _ | refine blk_drew ?_ | refine blk_alloc ?_ _)); exact BK405.out))⟩; have n2_ : Aside0 (w44.heap[gb406]? = some (.cells #[.int .i64 a2] 3 (0, 0))) := ⟨(by rw [hw]; exact (by (with_reducible repeat (first | refine blk_drewN ?_ _ | refine blk_drew ?_ | refine blk_alloc ?_ _)); refine blk_far ?_ NB406_407.out _; (with_reducible repeat (first | refine blk_drewN ?_ _ | refine blk_drew ?_ | refine blk_alloc ?_ _)); refine blk_far ?_ NB406_407.out _; (with_reducible repeat (first | refine blk_drewN ?_ _ | refine blk_drew ?_ | refine blk_alloc ?_ _)); refine blk_far ?_ NB406_407.out _; (with_reducible repeat (first | refine blk_drewN ?_ _ | refine blk_drew ?_ | refine blk_alloc ?_ _)); refine blk_far ?_ NB406_407.out _; (with_reducible repeat (first | refine blk_drewN ?_ _ | refine blk_drew ?_ | refine blk_alloc ?_ _)); refine blk_far ?_ NB406_407.out _; (with_reducible repeat (first | refine blk_drewN ?_ _ | refine blk_drew ?_ | refine blk_alloc ?_ _)); refine blk_far ?_ NB406_407.out _; (with_reducible repeat (first | refine blk_drewN ?_ _ | refine blk_drew ?_ | refine blk_alloc ?_ _)); refine blk_far ?_ NB406_407.out _; (with_reducible repeat (first | refine blk_drewN ?_ _ | refine blk_drew ?_ | refine blk_alloc ?_ _)); refine blk_far ?_ NB406_407.out _; (with_reducible repeat (first | refine blk_drewN ?_ _ | refine blk_drew ?_ | refine blk_alloc ?_ _)); refine blk_far ?_ NB406_407.out _; (with_reducible repeat (first | refine blk_drewN ?_ _ | refine blk_drew ?_ | refine blk_alloc ?_ _)); exact BK406.out))⟩; have n3_ : Aside0 (w44.heap[gb407]? = some (.cells #[.int .i64 0, .int .i64 0, .int .i64 0, .int .i64 0, .int .i64 0, .int .i64 0, .slice none 0 0, .slice none 0 0, .bool false] 29 (0, 0))) := ⟨(by rw [hw]; exact (by (with_reducible repeat (first | refine blk_drewN ?_ _ | refine blk_drew ?_ | refine blk_alloc ?_ _)); refine blk_put (cs := #[.int .i64 0, .int .i64 0, .int .i64 0, .int .i64 0, .int .i64 0, .int .i64 0, .slice none 0 0, .slice none 0 0, .bool false]) ?_ 8 _ rfl; (with_reducible repeat (first | refine blk_drewN ?_ _ | refine blk_drew ?_ | refine blk_alloc ?_ _)); refine blk_put (cs := #[.int .i64 0, .int .i64 0, .int .i64 0, .int .i64 0, .int .i64 0, .int .i64 0, .slice none 0 0, .slice none 0 0, .bool false]) ?_ 7 _ rfl; (with_reducible repeat (first | refine blk_drewN ?_ _ | refine blk_drew ?_ | refine blk_alloc ?_ _)); refine blk_put (cs := #[.int .i64 0, .int .i64 0, .int .i64 0, .int .i64 0, .int .i64 0, .int .i64 0, .slice none 0 0, .slice none 0 0, .bool false]) ?_ 6 _ rfl; (with_reducible repeat (first | refine blk_drewN ?_ _ | refine blk_drew ?_ | refine blk_alloc ?_ _)); refine blk_put (cs := #[.int .i64 0, .int .i64 0, .int .i64 0, .int .i64 0, .int .i64 0, .int .i64 0, .slice none 0 0, .slice none 0 0, .bool false]) ?_ 5 _ rfl; (with_reducible repeat (first | refine blk_drewN ?_ _ | refine blk_drew ?_ | refine blk_alloc ?_ _)); refine blk_put (cs := #[.int .i64 0, .int .i64 0, .int .i64 0, .int .i64 0, .int .i64 0, .int .i64 0, .slice none 0 0, .slice none 0 0, .bool false]) ?_ 4 _ rfl; (with_reducible repeat (first | refine blk_drewN ?_ _ | refine blk_drew ?_ | refine blk_alloc ?_ _)); refine blk_put (cs := #[.int .i64 0, .int .i64 0, .int .i64 0, .int .i64 0, .int .i64 0, .int .i64 0, .slice none 0 0, .slice none 0 0, .bool false]) ?_ 3 _ rfl; (with_reducible repeat (first | refine blk_drewN ?_ _ | refine blk_drew ?_ | refine blk_alloc ?_ _)); refine blk_put (cs := #[.int .i64 0, .int .i64 0, .int .i64 0, .int .i64 0, .int .i64 0, .int .i64 0, .slice none 0 0, .slice none 0 0, .bool false]) ?_ 2 _ rfl; (with_reducible repeat (first | refine blk_drewN ?_ _ | refine blk_drew ?_ | refine blk_alloc ?_ _)); refine blk_put (cs := #[.int .i64 0, .int .i64 0, .int .i64 0, .int .i64 0, .int .i64 0, .int .i64 0, .slice none 0 0, .slice none 0 0, .bool false]) ?_ 1 _ rfl; (with_reducible repeat (first | refine blk_drewN ?_ _ | refine blk_drew ?_ | refine blk_alloc ?_ _)); refine blk_put (cs := #[.int .i64 0, .int .i64 0, .int .i64 0, .int .i64 0, .int .i64 0, .int .i64 0, .slice none 0 0, .slice none 0 0, .bool false]) ?_ 0 _ rfl; (with_reducible repeat (first | refine blk_drewN ?_ _ | refine blk_drew ?_ | refine blk_alloc ?_ _)); exact BK407.out))⟩; have n4_ : Aside0 (Below w.heap.size w w44) := ⟨(by rw [hw]; exact (by repeat (first | (with_reducible first | exact HB.out | apply below_alloc | apply pw_below_drewN | apply below_drew1 | refine below_set ?_ GE404.out | refine below_set ?_ GE405.out | refine below_set ?_ GE406.out | refine below_set ?_ GE407.out) | exact HB.out)))⟩; clear hw; clear BK404; clear BK405; clear BK406; clear BK407; clear HB; have BK404 := n0_; have BK405 := n1_; have BK406 := n2_; have BK407 := n3_; have HB := n4_; clear n0_ n1_ n2_ n3_ n4_))
     refine bodyPost_ret (results_ct rfl _ _ gb407 29 #[.int .i64 0, .int .i64 0, .int .i64 0, .int .i64 0, .int .i64 0, .int .i64 0, .slice none 0 0, .slice none 0 0, .bool false] (0, 0) _ rfl (kb_ BK407.out) Try.underlying29 rfl (by kernel_rfl)) rfl ?_
     exact ⟨_, _, by first | rfl | (simp [errW_none, errW_some] <;> rfl) | (simp [*, errW_none, errW_some] <;> rfl), by first | exact Kd.R_nil _ _ _ _ _ | exact Kd.N_nil _ _ _ _ _ | exact Kd.V_nil _ _ _ _ _ | exact Kd.Q_nil _ _ _ _ _ | exact Kd.S_nil _ _ _ _ _, by first | exact Kd.R_nil _ _ _ _ _ | exact Kd.N_nil _ _ _ _ _ | exact Kd.V_nil _ _ _ _ _ | exact Kd.Q_nil _ _ _ _ _ | exact Kd.S_nil _ _ _ _ _, by repeat (first | (with_reducible first | exact HB.out | apply below_alloc | apply pw_below_drewN | apply below_drew1 | refine below_set ?_ GE404.out | refine below_set ?_ GE405.out | refine below_set ?_ GE406.out | refine below_set ?_ GE407.out) | exact HB.out)⟩
   · replace c39 := Bool.eq_false_iff.mpr c39
     subst c39
     rw [if_neg (show ¬ (false = true) by decide)] at H
     have H' := Aside0.mk H
     clear H
     go_wp2_with (first | ((with_reducible refine gate_dst (N := 32) rfl ?_); refine blk_load_event ?lg (N := 32) ?ld (t := 29) (x := ?lxxz45) ?lo (g := gb404) ?lx (cs := _) BK404.out ?lD ?lt ?_; (case lg => rfl); (case ld => rfl); (case lo => rfl); (case lx => first | rfl | (go_simp; done) | (go_simp; rfl)); (case lD => exact ⟨_, Try.underlying29, rfl⟩); (case lt => kernel_rfl)) | ((with_reducible refine gate_dst (N := 9) rfl ?_); refine alloc_store_event ?hg1 (N := 9) ?hd1 ?hg2 ?hd2 ?ho2 (cs0 := #[.int .i64 0, .int .i64 0, .int .i64 0, .int .i64 0, .int .i64 0, .int .i64 0, .slice none 0 0, .slice none 0 0, .bool false]) (cs := #[.int .i64 a0_0, .int .i64 a0_1, .int .i64 a0_2, .int .i64 a0_3, .int .i64 a0_4, .int .i64 a0_5, .slice A0_6 l0_6.length c0_6, .slice A0_7 l0_7.length c0_7, .bool a0_8]) (t := 29) (x := ?xxw46) ?hr ?hp ?hx ?hs ?h1 ?ht ?_; (case hg1 => rfl); (case hd1 => rfl); (case hg2 => rfl); (case hd2 => rfl); (case ho2 => rfl); (case hr => first | (go_simp; done) | (go_simp; rfl)); (case hp => rfl); (case hx => rfl); (case hs => rfl); (case h1 => rfl); (case ht => kernel_rfl); intro gb409 hg w46 hbox hb; have n0_ := Aside0.mk (blk_below (kb_ BK404.out) hb); have n1_ := Aside0.mk (blk_below (kb_ BK405.out) hb); have n2_ := Aside0.mk (blk_below (kb_ BK406.out) hb); have n3_ := Aside0.mk (blk_below (kb_ BK407.out) hb); have n4_ := Aside0.mk (below_step (by repeat (first | (with_reducible first | exact HB.out | apply below_alloc | apply pw_below_drewN | apply below_drew1 | refine below_set ?_ GE404.out | refine below_set ?_ GE405.out | refine below_set ?_ GE406.out | refine below_set ?_ GE407.out) | exact HB.out)) hb); have n5_ := Aside0.mk (hbox); have n6_ := Aside0.mk ((by rw [hg]; exact (below_size (by repeat (first | (with_reducible first | exact HB.out | apply below_alloc | apply pw_below_drewN | apply below_drew1 | refine below_set ?_ GE404.out | refine below_set ?_ GE405.out | refine below_set ?_ GE406.out | refine below_set ?_ GE407.out) | exact HB.out))) : w.heap.size ≤ gb409)); have n7_ := Aside0.mk ((by rw [hg]; exact (below_size (by repeat (first | (with_reducible first | exact HB.out | apply below_alloc | apply pw_below_drewN | apply below_drew1 | refine below_set ?_ GE404.out | refine below_set ?_ GE405.out | refine below_set ?_ GE406.out | refine below_set ?_ GE407.out) | exact HB.out))) : w.heap.size ≤ gb409)); have n8_ := Aside0.mk ((by rw [hg]; exact Nat.ne_of_lt (blk_lt (kb_ BK404.out)) : gb404 ≠ gb409)); have n9_ := Aside0.mk ((by rw [hg]; exact Nat.ne_of_gt (blk_lt (kb_ BK404.out)) : gb409 ≠ gb404)); have n10_ := Aside0.mk ((by rw [hg]; exact Nat.ne_of_lt (blk_lt (kb_ BK405.out)) : gb405 ≠ gb409)); have n11_ := Aside0.mk ((by rw [hg]; exact Nat.ne_of_gt (blk_lt (kb_ BK405.out)) : gb409 ≠ gb405)); have n12_ := Aside0.mk ((by rw [hg]; exact Nat.ne_of_lt (blk_lt (kb_ BK406.out)) : gb406 ≠ gb409)); have n13_ := Aside0.mk ((by rw [hg]; exact Nat.ne_of_gt (blk_lt (kb_ BK406.out)) : gb409 ≠ gb406)); have n14_ := Aside0.mk ((by rw [hg]; exact Nat.ne_of_lt (blk_lt (kb_ BK407.out)) : gb407 ≠ gb409)); have n15_ := Aside0.mk ((by rw [hg]; exact Nat.ne_of_gt (blk_lt (kb_ BK407.out)) : gb409 ≠ gb407)); clear BK404; clear BK405; clear BK406; clear BK407; clear HB; have BK404 := n0_; have BK405 := n1_; have BK406 := n2_; have BK407 := n3_; have HB := n4_; have BK409 := n5_; have GW409 := n6_; have GE409 := n7_; have NB404_409 := n8_; have NB409_404 := n9_; have NB405_409 := n10_; have NB409_405 := n11_; have NB406_409 := n12_; have NB409_406 := n13_; have NB407_409 := n14_; have NB409_407 := n15_; clear n0_ n1_ n2_ n3_ n4_ n5_ n6_ n7_ n8_ n9_ n10_ n11_ n12_ n13_ n14_ n15_; clear hb hbox hg; have hnb47 := NB409_404.out; have hnc47 := NB404_409.out; have hnb48 := NB409_405.out; have hnc48 := NB405_409.out; have hnb49 := NB409_406.out; have hnc49 := NB406_409.out; have hnb50 := NB409_407.out; have hnc50 := NB407_409.out; refine blk9_ BK409.out fun hcz51_0 hcz51_1 hcz51_2 hcz51_3 hcz51_4 hcz51_5 hcz51_6 hcz51_7 hcz51_8 hfz51_0 hfz51_1 hfz51_2 hfz51_3 hfz51_4 hfz51_5 hfz51_6 hfz51_7 hfz51_8 => ?_; have hnb52 := NB404_405.out; have hnc52 := NB405_404.out; have hnb53 := NB404_406.out; have hnc53 := NB406_404.out; have hnb54 := NB404_407.out; have hnc54 := NB407_404.out; refine blk9_ BK404.out fun hcz55_0 hcz55_1 hcz55_2 hcz55_3 hcz55_4 hcz55_5 hcz55_6 hcz55_7 hcz55_8 hfz55_0 hfz55_1 hfz55_2 hfz55_3 hfz55_4 hfz55_5 hfz55_6 hfz55_7 hfz55_8 => ?_))
     go_loopg [38] kj3 (fun kq v38 w' => ∃ (x38_2 : Int) (x410006_2 : List (S38)) (u410006 : Value), v38 = .int .i64 x38_2 ∧ Aside0 (command_Part.l0 kq l0_6 (l0_6.length : Int) x38_2 a0_0 a0_1 a0_2 a0_3 a0_4 a0_5 l0_6 l0_7 a0_8 a1 a2 a0_0 a0_1 a0_2 a0_3 a0_4 a0_5 x410006_2 a0_8 = some (r1, r2, r3, r4, r5, r6, r7, r8, r9, r10)) ∧ Aside0 (kq ≤ kj3) ∧ Aside0 (Kd.R k38 38 w' w.heap.size (fun _ => True) u410006 x410006_2) ∧ Aside0 (w'.heap[gb404]? = some (.cells #[.int .i64 a0_0, .int .i64 a0_1, .int .i64 a0_2, .int .i64 a0_3, .int .i64 a0_4, .int .i64 a0_5, (.slice A0_6 l0_6.length c0_6), (.slice A0_7 l0_7.length c0_7), .bool a0_8] 29 (0, 0))) ∧ Aside0 (w'.heap[gb405]? = some (.cells #[.int .i64 a1] 3 (0, 0))) ∧ Aside0 (w'.heap[gb406]? = some (.cells #[.int .i64 a2] 3 (0, 0))) ∧ Aside0 (w'.heap[gb407]? = some (.cells #[.int .i64 0, .int .i64 0, .int .i64 0, .int .i64 0, .int .i64 0, .int .i64 0, (.slice none 0 0), (.slice none 0 0), .bool false] 29 (0, 0))) ∧ Aside0 (w'.heap[gb409]? = some (.cells #[.int .i64 a0_0, .int .i64 a0_1, .int .i64 a0_2, .int .i64 a0_3, .int .i64 a0_4, .int .i64 a0_5, u410006, (.slice none 0 0), .bool a0_8] 29 (0, 0))) ∧ Aside0 (Below w.heap.size w w'))
     case atStart => exact ⟨(0), (([] : List (S38))), (.slice none 0 0), (by first | rfl | (simp; done) | (simp [*]; done)), H', ⟨Nat.le_refl _⟩, ⟨by first | exact Kd.R_nil _ _ _ _ _ | exact Kd.N_nil _ _ _ _ _ | exact Kd.V_nil _ _ _ _ _ | exact Kd.Q_nil _ _ _ _ _ | exact Kd.S_nil _ _ _ _ _⟩, ⟨by (with_reducible repeat (first | refine blk_drewN ?_ _ | refine blk_drew ?_ | refine blk_alloc ?_ _)); refine blk_far ?_ NB404_409.out _; (with_reducible repeat (first | refine blk_drewN ?_ _ | refine blk_drew ?_ | refine blk_alloc ?_ _)); refine blk_far ?_ NB404_409.out _; (with_reducible repeat (first | refine blk_drewN ?_ _ | refine blk_drew ?_ | refine blk_alloc ?_ _)); exact BK404.out⟩, ⟨by (with_reducible repeat (first | refine blk_drewN ?_ _ | refine blk_drew ?_ | refine blk_alloc ?_ _)); refine blk_far ?_ NB405_409.out _; (with_reducible repeat (first | refine blk_drewN ?_ _ | refine blk_drew ?_ | refine blk_alloc ?_ _)); refine blk_far ?_ NB405_409.out _; (with_reducible repeat (first | refine blk_drewN ?_ _ | refine blk_drew ?_ | refine blk_alloc ?_ _)); exact BK405.out⟩, ⟨by (with_reducible repeat (first | refine blk_drewN ?_ _ | refine blk_drew ?_ | refine blk_alloc ?_ _)); refine blk_far ?_ NB406_409.out _; (with_reducible repeat (first | refine blk_drewN ?_ _ | refine blk_drew ?_ | refine blk_alloc ?_ _)); refine blk_far ?_ NB406_409.out _; (with_reducible repeat (first | refine blk_drewN ?_ _ | refine blk_drew ?_ | refine blk_alloc ?_ _)); exact BK406.out⟩, ⟨by (with_reducible repeat (first | refine blk_drewN ?_ _ | refine blk_drew ?_ | refine blk_alloc ?_ _)); refine blk_far ?_ NB407_409.out _; (with_reducible repeat (first | refine blk_drewN ?_ _ | refine blk_drew ?_ | refine blk_alloc ?_ _)); refine blk_far ?_ NB407_409.out _; (with_reducible repeat (first | refine blk_drewN ?_ _ | refine blk_drew ?_ | refine blk_alloc ?_ _)); exact BK407.out⟩, ⟨by (with_reducible repeat (first | refine blk_drewN ?_ _ | refine blk_drew ?_ | refine blk_alloc ?_ _)); refine blk_put (cs := #[.int .i64 a0_0, .int .i64 a0_1, .int .i64 a0_2, .int .i64 a0_3, .int .i64 a0_4, .int .i64 a0_5, .slice none 0 0, .slice A0_7 l0_7.length c0_7, .bool a0_8]) ?_ 7 _ rfl; (with_reducible repeat (first | refine blk_drewN ?_ _ | refine blk_drew ?_ | refine blk_alloc ?_ _)); refine blk_put (cs := #[.int .i64 a0_0, .int .i64 a0_1, .int .i64 a0_2, .int .i64 a0_3, .int .i64 a0_4, .int .i64 a0_5, .slice A0_6 l0_6.length c0_6, .slice A0_7 l0_7.length c0_7, .bool a0_8]) ?_ 6 _ rfl; (with_reducible repeat (first | refine blk_drewN ?_ _ | refine blk_drew ?_ | refine blk_alloc ?_ _)); exact BK409.out⟩, ⟨by repeat (first | (with_reducible first | exact HB.out | apply below_alloc | apply pw_below_drewN | apply below_drew1 | refine below_set ?_ GE404.out | refine below_set ?_ GE405.out | refine below_set ?_ GE406.out | refine below_set ?_ GE407.out | refine below_set ?_ GE409.out) | exact HB.out)⟩⟩
     case round =>
      clear H'
      try clear c1
      try clear c2
      try clear p2
      try clear c3
      try clear c4
      try clear c5
      try clear c10
      try clear c11
      try clear c11b0
      try clear c11b1
      try clear c14
      try clear c15
      try clear c16
      try clear c18
      try clear c18b0
      try clear c21
      try clear c22
      try clear c23
      try clear c25
      try clear c26
      try clear c30
      try clear c31
      try clear c32
      try clear c34
      try clear c35
      try clear c39
      try clear c40
      try clear c41
      try clear c42
      try clear c47
      try clear c48
      try clear c49
      try clear c50
      try clear c52
      try clear c53
      try clear c54
      try clear hcz17_0 hcz17_1 hcz17_2 hcz17_3 hcz17_4 hcz17_5 hcz17_6 hcz17_7 hcz17_8
      try clear hcz24_0 hcz24_1 hcz24_2 hcz24_3 hcz24_4 hcz24_5 hcz24_6 hcz24_7 hcz24_8
      try clear hcz27_0
      try clear hcz33_0 hcz33_1 hcz33_2 hcz33_3 hcz33_4 hcz33_5 hcz33_6 hcz33_7 hcz33_8
      try clear hcz36_0
      try clear hcz43_0 hcz43_1 hcz43_2 hcz43_3 hcz43_4 hcz43_5 hcz43_6 hcz43_7 hcz43_8
      try clear hcz51_0 hcz51_1 hcz51_2 hcz51_3 hcz51_4 hcz51_5 hcz51_6 hcz51_7 hcz51_8
      try clear hcz55_0 hcz55_1 hcz55_2 hcz55_3 hcz55_4 hcz55_5 hcz55_6 hcz55_7 hcz55_8
      try clear hfz17_0 hfz17_1 hfz17_2 hfz17_3 hfz17_4 hfz17_5 hfz17_6 hfz17_7 hfz17_8
      try clear hfz24_0 hfz24_1 hfz24_2 hfz24_3 hfz24_4 hfz24_5 hfz24_6 hfz24_7 hfz24_8
      try clear hfz27_0
      try clear hfz33_0 hfz33_1 hfz33_2 hfz33_3 hfz33_4 hfz33_5 hfz33_6 hfz33_7 hfz33_8
      try clear hfz36_0
      try clear hfz43_0 hfz43_1 hfz43_2 hfz43_3 hfz43_4 hfz43_5 hfz43_6 hfz43_7 hfz43_8
      try clear hfz51_0 hfz51_1 hfz51_2 hfz51_3 hfz51_4 hfz51_5 hfz51_6 hfz51_7 hfz51_8
      try clear hfz55_0 hfz55_1 hfz55_2 hfz55_3 hfz55_4 hfz55_5 hfz55_6 hfz55_7 hfz55_8
      try clear p2
      (try clear BK404); (try clear BK405); (try clear BK406); (try clear BK407); (try clear BK409)
      obtain ⟨x38_2, x410006_2, u410006, rfl, HA, HK2, HO_410006, BK404, BK405, BK406, BK407, BK409, HB⟩ := hrel
      cases gk with
      | zero => exact absurd HA.out (by simp [command_Part.l0])
      | succ k2 =>
       have H := HA.out
       clear HA
       simp only [command_Part.l0] at H
       by_cases c56 : x38_2 < (l0_6.length : Int)
       · rw [if_pos c56] at H
         have c56b0 : decide (x38_2 < (l0_6.length : Int)) = true := decide_eq_true c56
         clear c56
         by_cases c57 : 0 ≤ x38_2
         · rw [if_pos c57] at H
           have c57b0 : decide (0 ≤ x38_2) = true := decide_eq_true c57
           clear c57
           by_cases c58 : x38_2 < (l0_6.length : Int)
           · rw [if_pos c58] at H
             have c58b0 : decide (x38_2 < (l0_6.length : Int)) = true := decide_eq_true c58
             clear c58
             obtain ⟨t412, A59, H⟩ := bs_ H
             by_cases c60 : t412 = true
             · subst c60
               rw [if_pos rfl] at H
               by_cases c61 : x410006_2.length < 4398046511104
               · rw [if_pos c61] at H
                 have LMc61 := Aside0.mk c61
                 clear c61
                 obtain ⟨y413, hy413⟩ : ∃ y_ : List (S38), y_ = (x410006_2 ++ [(⟨(rd_T38 l0_6 x38_2).f0, (⟨(rd_T38 l0_6 x38_2).f1.f0, (rd_T38 l0_6 x38_2).f1.f1⟩ : S25)⟩ : S38)]) := ⟨_, rfl⟩
                 replace H : (command_Part.l0 k2 l0_6 (l0_6.length : Int) (wrap64 (x38_2 + 1)) a0_0 a0_1 a0_2 a0_3 a0_4 a0_5 l0_6 l0_7 a0_8 a1 a2 a0_0 a0_1 a0_2 a0_3 a0_4 a0_5 y413 a0_8) = some (r1, r2, r3, r4, r5, r6, r7, r8, r9, r10) := by first | (rw [hy413]; with_reducible exact H) | (have H2_ := (Option.bind_some _ _).symm.trans H; rw [hy413]; with_reducible exact H2_) | (have H2_ := (Option.bind_some _ _).symm.trans H; with_reducible exact H2_) | with_reducible exact H | (rw [hy413]; exact H) | exact H
                 have Ny413 := Aside0.mk hy413
                 clear hy413
                 have H' := Aside0.mk H
                 clear H
                 have p410 : 0 ≤ (x38_2 : Int) := of_decide_eq_true (by first | (with_reducible assumption) | assumption)
                 have q410 : x38_2 < (l0_6.length : Int) := of_decide_eq_true (by first | (with_reducible assumption) | assumption)
                 obtain ⟨ad410, e410, hx410_0, hx410_1, hx410_2⟩ := at_T38 HR0_6.out x38_2 p410 q410
                 cases e410
                 replace hx410_0 := (HB.out.cell (World.block_lt_of_cell? w _ hx410_0)).trans hx410_0
                 replace hx410_1 := (HB.out.cell (World.block_lt_of_cell? w _ hx410_1)).trans hx410_1
                 replace hx410_2 := (HB.out.cell (World.block_lt_of_cell? w _ hx410_2)).trans hx410_2
                 replace p410 := eq_true p410
                 replace q410 := eq_true q410
                 go_wp2_with (first | ((with_reducible refine gate_dst (N := 11) rfl ?_); refine box_event ?hg (N := 11) ?hd (cs := #[.string (⟨#[]⟩ : ByteArray), .int .i64 0, .int .i64 0]) (t := 38) ?hr ?_; (case hd => rfl); (case hg => rfl); (case hr => first | (go_simp; done) | (go_simp; rfl)); intro gb411 hg w62 hbox hb; have n0_ := Aside0.mk (Kd.R_below (Kd.R_elderB (kr_ HO_410006.out) gb411 (Nat.le_of_eq hg.symm)) hb); have n1_ := Aside0.mk (blk_below (kb_ BK404.out) hb); have n2_ := Aside0.mk (blk_below (kb_ BK405.out) hb); have n3_ := Aside0.mk (blk_below (kb_ BK406.out) hb); have n4_ := Aside0.mk (blk_below (kb_ BK407.out) hb); have n5_ := Aside0.mk (blk_below (kb_ BK409.out) hb); have n6_ := Aside0.mk (below_step (by repeat (first | (with_reducible first | exact HB.out | apply below_alloc | apply pw_below_drewN | apply below_drew1 | refine below_set ?_ GE404.out | refine below_set ?_ GE405.out | refine below_set ?_ GE406.out | refine below_set ?_ GE407.out | refine below_set ?_ GE409.out) | exact HB.out)) hb); have n7_ := Aside0.mk (hbox); have n8_ := Aside0.mk ((by rw [hg]; exact (below_size (by repeat (first | (with_reducible first | exact HB.out | apply below_alloc | apply pw_below_drewN | apply below_drew1 | refine below_set ?_ GE404.out | refine below_set ?_ GE405.out | refine below_set ?_ GE406.out | refine below_set ?_ GE407.out | refine below_set ?_ GE409.out) | exact HB.out))) : w.heap.size ≤ gb411)); have n9_ := Aside0.mk ((by rw [hg]; exact (below_size (by repeat (first | (with_reducible first | exact HB.out | apply below_alloc | apply pw_below_drewN | apply below_drew1 | refine below_set ?_ GE404.out | refine below_set ?_ GE405.out | refine below_set ?_ GE406.out | refine below_set ?_ GE407.out | refine below_set ?_ GE409.out) | exact HB.out))) : w.heap.size ≤ gb411)); have n10_ := Aside0.mk ((by rw [hg]; exact Nat.ne_of_lt (blk_lt (kb_ BK404.out)) : gb404 ≠ gb411)); have n11_ := Aside0.mk ((by rw [hg]; exact Nat.ne_of_gt (blk_lt (kb_ BK404.out)) : gb411 ≠ gb404)); have n12_ := Aside0.mk ((by rw [hg]; exact Nat.ne_of_lt (blk_lt (kb_ BK405.out)) : gb405 ≠ gb411)); have n13_ := Aside0.mk ((by rw [hg]; exact Nat.ne_of_gt (blk_lt (kb_ BK405.out)) : gb411 ≠ gb405)); have n14_ := Aside0.mk ((by rw [hg]; exact Nat.ne_of_lt (blk_lt (kb_ BK406.out)) : gb406 ≠ gb411)); have n15_ := Aside0.mk ((by rw [hg]; exact Nat.ne_of_gt (blk_lt (kb_ BK406.out)) : gb411 ≠ gb406)); have n16_ := Aside0.mk ((by rw [hg]; exact Nat.ne_of_lt (blk_lt (kb_ BK407.out)) : gb407 ≠ gb411)); have n17_ := Aside0.mk ((by rw [hg]; exact Nat.ne_of_gt (blk_lt (kb_ BK407.out)) : gb411 ≠ gb407)); have n18_ := Aside0.mk ((by rw [hg]; exact Nat.ne_of_lt (blk_lt (kb_ BK409.out)) : gb409 ≠ gb411)); have n19_ := Aside0.mk ((by rw [hg]; exact Nat.ne_of_gt (blk_lt (kb_ BK409.out)) : gb411 ≠ gb409)); clear HO_410006; clear BK404; clear BK405; clear BK406; clear BK407; clear BK409; clear HB; have HO_410006 := n0_; have BK404 := n1_; have BK405 := n2_; have BK406 := n3_; have BK407 := n4_; have BK409 := n5_; have HB := n6_; have BK411 := n7_; have GW411 := n8_; have GE411 := n9_; have NB404_411 := n10_; have NB411_404 := n11_; have NB405_411 := n12_; have NB411_405 := n13_; have NB406_411 := n14_; have NB411_406 := n15_; have NB407_411 := n16_; have NB411_407 := n17_; have NB409_411 := n18_; have NB411_409 := n19_; clear n0_ n1_ n2_ n3_ n4_ n5_ n6_ n7_ n8_ n9_ n10_ n11_ n12_ n13_ n14_ n15_ n16_ n17_ n18_ n19_; clear hb hbox hg; have hnb63 := NB411_404.out; have hnc63 := NB404_411.out; have hnb64 := NB411_405.out; have hnc64 := NB405_411.out; have hnb65 := NB411_406.out; have hnc65 := NB406_411.out; have hnb66 := NB411_407.out; have hnc66 := NB407_411.out; have hnb67 := NB411_409.out; have hnc67 := NB409_411.out; refine blk3_ BK411.out fun hcz68_0 hcz68_1 hcz68_2 hfz68_0 hfz68_1 hfz68_2 => ?_) | (go_at_call 34; (with_reducible refine (command_Part_1.calls ((rd_T38 l0_6 x38_2).f0) a2 a1 true _ ?side1 ?side2 A59.out).mono ?_); (case side1 => refine CapC.mk (show _ = some (Obj.cells #[.int .i64 a2] 3 (0, 0)) from ?_) rfl; (with_reducible repeat (first | refine blk_drewN ?_ _ | refine blk_drew ?_ | refine blk_alloc ?_ _)); refine blk_far ?_ NB406_411.out _; (with_reducible repeat (first | refine blk_drewN ?_ _ | refine blk_drew ?_ | refine blk_alloc ?_ _)); refine blk_far ?_ NB406_411.out _; (with_reducible repeat (first | refine blk_drewN ?_ _ | refine blk_drew ?_ | refine blk_alloc ?_ _)); refine blk_far ?_ NB406_411.out _; (with_reducible repeat (first | refine blk_drewN ?_ _ | refine blk_drew ?_ | refine blk_alloc ?_ _)); exact BK406.out); (case side2 => refine CapC.mk (show _ = some (Obj.cells #[.int .i64 a1] 3 (0, 0)) from ?_) rfl; (with_reducible repeat (first | refine blk_drewN ?_ _ | refine blk_drew ?_ | refine blk_alloc ?_ _)); refine blk_far ?_ NB405_411.out _; (with_reducible repeat (first | refine blk_drewN ?_ _ | refine blk_drew ?_ | refine blk_alloc ?_ _)); refine blk_far ?_ NB405_411.out _; (with_reducible repeat (first | refine blk_drewN ?_ _ | refine blk_drew ?_ | refine blk_alloc ?_ _)); refine blk_far ?_ NB405_411.out _; (with_reducible repeat (first | refine blk_drewN ?_ _ | refine blk_drew ?_ | refine blk_alloc ?_ _)); exact BK405.out); rintro e w69 ⟨rfl, hb⟩; have n0_ := Aside0.mk (Kd.R_below (by (with_reducible repeat (first | apply Kd.R_alloc | apply Kd.R_drewN | apply Kd.R_drew)); exact (Kd.R_mono (Kd.R_far (p := ⟨gb411, 2, none⟩) (Kd.R_far (p := ⟨gb411, 1, none⟩) (Kd.R_far (p := ⟨gb411, 0, none⟩) (Kd.R_mono HO_410006.out (fun k_ hk => (⟨hk, hk.2⟩ : _ ∧ k_ ≠ gb411))) (fun _ hk => hk.2) (.string ((rd_T38 l0_6 x38_2).f0))) (fun _ hk => hk.2) (.int .i64 ((rd_T38 l0_6 x38_2).f1.f0))) (fun _ hk => hk.2) (.int .i64 ((rd_T38 l0_6 x38_2).f1.f1))) (fun _ h_ => h_.1))) hb); have n1_ := Aside0.mk (blk_below (g := gb404) (o := .cells #[.int .i64 a0_0, .int .i64 a0_1, .int .i64 a0_2, .int .i64 a0_3, .int .i64 a0_4, .int .i64 a0_5, .slice (some ad410) l0_6.length c0_6, .slice A0_7 l0_7.length c0_7, .bool a0_8] 29 (0, 0)) (by (with_reducible repeat (first | refine blk_drewN ?_ _ | refine blk_drew ?_ | refine blk_alloc ?_ _)); refine blk_far ?_ NB404_411.out _; (with_reducible repeat (first | refine blk_drewN ?_ _ | refine blk_drew ?_ | refine blk_alloc ?_ _)); refine blk_far ?_ NB404_411.out _; (with_reducible repeat (first | refine blk_drewN ?_ _ | refine blk_drew ?_ | refine blk_alloc ?_ _)); refine blk_far ?_ NB404_411.out _; (with_reducible repeat (first | refine blk_drewN ?_ _ | refine blk_drew ?_ | refine blk_alloc ?_ _)); exact BK404.out) hb); have n2_ := Aside0.mk (blk_below (g := gb405) (o := .cells #[.int .i64 a1] 3 (0, 0)) (by (with_reducible repeat (first | refine blk_drewN ?_ _ | refine blk_drew ?_ | refine blk_alloc ?_ _)); refine blk_far ?_ NB405_411.out _; (with_reducible repeat (first | refine blk_drewN ?_ _ | refine blk_drew ?_ | refine blk_alloc ?_ _)); refine blk_far ?_ NB405_411.out _; (with_reducible repeat (first | refine blk_drewN ?_ _ | refine blk_drew ?_ | refine blk_alloc ?_ _)); refine blk_far ?_ NB405_411.out _; (with_reducible repeat (first | refine blk_drewN ?_ _ | refine blk_drew ?_ | refine blk_alloc ?_ _)); exact BK405.out) hb); have n3_ := Aside0.mk (blk_below (g := gb406) (o := .cells #[.int .i64 a2] 3 (0, 0)) (by (with_reducible repeat (first | refine blk_drewN ?_ _ | refine blk_drew ?_ | refine blk_alloc ?_ _)); refine blk_far ?_ NB406_411.out _; (with_reducible repeat (first | refine blk_drewN ?_ _ | refine blk_drew ?_ | refine blk_alloc ?_ _)); refine blk_far ?_ NB406_411.out _; (with_reducible repeat (first | refine blk_drewN ?_ _ | refine blk_drew ?_ | refine blk_alloc ?_ _)); refine blk_far ?_ NB406_411.out _; (with_reducible repeat (first | refine blk_drewN ?_ _ | refine blk_drew ?_ | refine blk_alloc ?_ _)); exact BK406.out) hb); have n4_ := Aside0.mk (blk_below (g := gb407) (o := .cells #[.int .i64 0, .int .i64 0, .int .i64 0, .int .i64 0, .int .i64 0, .int .i64 0, .slice none 0 0, .slice none 0 0, .bool false] 29 (0, 0)) (by (with_reducible repeat (first | refine blk_drewN ?_ _ | refine blk_drew ?_ | refine blk_alloc ?_ _)); refine blk_far ?_ NB407_411.out _; (with_reducible repeat (first | refine blk_drewN ?_ _ | refine blk_drew ?_ | refine blk_alloc ?_ _)); refine blk_far ?_ NB407_411.out _; (with_reducible repeat (first | refine blk_drewN ?_ _ | refine blk_drew ?_ | refine blk_alloc ?_ _)); refine blk_far ?_ NB407_411.out _; (with_reducible repeat (first | refine blk_drewN ?_ _ | refine blk_drew ?_ | refine blk_alloc ?_ _)); exact BK407.out) hb); have n5_ := Aside0.mk (blk_below (g := gb409) (o := .cells #[.int .i64 a0_0, .int .i64 a0_1, .int .i64 a0_2, .int .i64 a0_3, .int .i64 a0_4, .int .i64 a0_5, u410006, .slice none 0 0, .bool a0_8] 29 (0, 0)) (by (with_reducible repeat (first | refine blk_drewN ?_ _ | refine blk_drew ?_ | refine blk_alloc ?_ _)); refine blk_far ?_ NB409_411.out _; (with_reducible repeat (first | refine blk_drewN ?_ _ | refine blk_drew ?_ | refine blk_alloc ?_ _)); refine blk_far ?_ NB409_411.out _; (with_reducible repeat (first | refine blk_drewN ?_ _ | refine blk_drew ?_ | refine blk_alloc ?_ _)); refine blk_far ?_ NB409_411.out _; (with_reducible repeat (first | refine blk_drewN ?_ _ | refine blk_drew ?_ | refine blk_alloc ?_ _)); exact BK409.out) hb); have n6_ := Aside0.mk (blk_below (g := gb411) (o := .cells #[.string ((rd_T38 l0_6 x38_2).f0), .int .i64 ((rd_T38 l0_6 x38_2).f1.f0), .int .i64 ((rd_T38 l0_6 x38_2).f1.f1)] 38 (0, 0)) (by (with_reducible repeat (first | refine blk_drewN ?_ _ | refine blk_drew ?_ | refine blk_alloc ?_ _)); refine blk_put (cs := #[.string ((rd_T38 l0_6 x38_2).f0), .int .i64 ((rd_T38 l0_6 x38_2).f1.f0), .int .i64 0]) ?_ 2 _ rfl; (with_reducible repeat (first | refine blk_drewN ?_ _ | refine blk_drew ?_ | refine blk_alloc ?_ _)); refine blk_put (cs := #[.string ((rd_T38 l0_6 x38_2).f0), .int .i64 0, .int .i64 0]) ?_ 1 _ rfl; (with_reducible repeat (first | refine blk_drewN ?_ _ | refine blk_drew ?_ | refine blk_alloc ?_ _)); refine blk_put (cs := #[.string (⟨#[]⟩ : ByteArray), .int .i64 0, .int .i64 0]) ?_ 0 _ rfl; (with_reducible repeat (first | refine blk_drewN ?_ _ | refine blk_drew ?_ | refine blk_alloc ?_ _)); exact BK411.out) hb); have n7_ := Aside0.mk (below_step (by repeat (first | (with_reducible first | exact HB.out | apply below_alloc | apply pw_below_drewN | apply below_drew1 | refine below_set ?_ GE404.out | refine below_set ?_ GE405.out | refine below_set ?_ GE406.out | refine below_set ?_ GE407.out | refine below_set ?_ GE409.out | refine below_set ?_ GE411.out) | exact HB.out)) hb); clear HO_410006; clear BK404; clear BK405; clear BK406; clear BK407; clear BK409; clear BK411; clear HB; have HO_410006 := n0_; have BK404 := n1_; have BK405 := n2_; have BK406 := n3_; have BK407 := n4_; have BK409 := n5_; have BK411 := n6_; have HB := n7_; clear n0_ n1_ n2_ n3_ n4_ n5_ n6_ n7_; (try clear hb); (try clear hb2); (try clear hk); (try clear hi); have hnb70 := NB409_404.out; have hnc70 := NB404_409.out; have hnb71 := NB409_405.out; have hnc71 := NB405_409.out; have hnb72 := NB409_406.out; have hnc72 := NB406_409.out; have hnb73 := NB409_407.out; have hnc73 := NB407_409.out; refine blk9_ BK409.out fun hcz74_0 hcz74_1 hcz74_2 hcz74_3 hcz74_4 hcz74_5 hcz74_6 hcz74_7 hcz74_8 hfz74_0 hfz74_1 hfz74_2 hfz74_3 hfz74_4 hfz74_5 hfz74_6 hfz74_7 hfz74_8 => ?_; refine blk3_ BK411.out fun hcz75_0 hcz75_1 hcz75_2 hfz75_0 hfz75_1 hfz75_2 => ?_) | ((with_reducible refine gate_builtin (b := .append) (xs := #[.tmp 47, .tmp 49]) rfl ?_); at_builtin; refine Kd.R_append k38 (w0 := w) w.heap.size rfl (.tmp 47) (.tmp 49) 26 38 (.agg #[(.string ⟨#[]⟩), (.int .i64 0), (.int .i64 0)]) 32 rfl Try.underlying26 info38 rfl (by decide) (by omega) u410006 x410006_2 (⟨(rd_T38 l0_6 x38_2).f0, (⟨(rd_T38 l0_6 x38_2).f1.f0, (rd_T38 l0_6 x38_2).f1.f1⟩ : S25)⟩ : S38) [.string ((rd_T38 l0_6 x38_2).f0), .int .i64 ((rd_T38 l0_6 x38_2).f1.f0), .int .i64 ((rd_T38 l0_6 x38_2).f1.f1)] (fun k_ => k_ ≠ gb411) (fun _ => False) rfl rfl ?aP (fun _ hk => hk.elim) ?aF ?aO ?aB ?aS ?aL ?_; (case aP => exact k38_mkM _ _ _ (⟨(rd_T38 l0_6 x38_2).f0, (⟨(rd_T38 l0_6 x38_2).f1.f0, (rd_T38 l0_6 x38_2).f1.f1⟩ : S25)⟩ : S38)); (case aB => exact (by repeat (first | (with_reducible first | exact HB.out | apply below_alloc | apply pw_below_drewN | apply below_drew1 | refine below_set ?_ GE404.out | refine below_set ?_ GE405.out | refine below_set ?_ GE406.out | refine below_set ?_ GE407.out | refine below_set ?_ GE409.out | refine below_set ?_ GE411.out) | exact HB.out))); (case aF => exact (fun k_ hk => Kd.freshB (g := gb411) (o := .cells #[.string ((rd_T38 l0_6 x38_2).f0), .int .i64 ((rd_T38 l0_6 x38_2).f1.f0), .int .i64 ((rd_T38 l0_6 x38_2).f1.f1)] 38 (0, 0)) (kb_ BK411.out) k_ hk)); (case aO => exact (by (with_reducible repeat (first | apply Kd.R_alloc | apply Kd.R_drewN | apply Kd.R_drew)); exact Kd.R_mono HO_410006.out (fun _ hk => hk.2))); (case aS => exact (below_size (by repeat (first | (with_reducible first | exact HB.out | apply below_alloc | apply pw_below_drewN | apply below_drew1 | refine below_set ?_ GE404.out | refine below_set ?_ GE405.out | refine below_set ?_ GE406.out | refine below_set ?_ GE407.out | refine below_set ?_ GE409.out | refine below_set ?_ GE411.out) | exact HB.out)))); (case aL => have := LMc61.out; omega); intro v414 w76 ho hb hg hat; rw [← Ny413.out] at ho; have n0_ := Aside0.mk (blk_grown (kb_ BK404.out) hg (Kd.R_ne HO_410006.out BK404.out (by decide))); have n1_ := Aside0.mk (blk_grown (kb_ BK405.out) hg (Kd.R_ne HO_410006.out BK405.out (by decide))); have n2_ := Aside0.mk (blk_grown (kb_ BK406.out) hg (Kd.R_ne HO_410006.out BK406.out (by decide))); have n3_ := Aside0.mk (blk_grown (kb_ BK407.out) hg (Kd.R_ne HO_410006.out BK407.out (by decide))); have n4_ := Aside0.mk (blk_grown (kb_ BK409.out) hg (Kd.R_ne HO_410006.out BK409.out (by decide))); have n5_ := Aside0.mk (blk_grown (kb_ BK411.out) hg (Kd.R_away HO_410006.out (fun _ hk => hk.2))); have n6_ := Aside0.mk (hb); have n7_ := Aside0.mk (ho); clear BK404; clear BK405; clear BK406; clear BK407; clear BK409; clear BK411; clear HB; clear HO_410006; have BK404 := n0_; have BK405 := n1_; have BK406 := n2_; have BK407 := n3_; have BK409 := n4_; have BK411 := n5_; have HB := n6_; have HO415 := n7_; clear n0_ n1_ n2_ n3_ n4_ n5_ n6_ n7_; clear ho hb hg hat; obtain ⟨Ao77, co77, eo77⟩ := Kd.R_slice HO415.out; subst eo77; refine blk9_ BK409.out fun hcz78_0 hcz78_1 hcz78_2 hcz78_3 hcz78_4 hcz78_5 hcz78_6 hcz78_7 hcz78_8 hfz78_0 hfz78_1 hfz78_2 hfz78_3 hfz78_4 hfz78_5 hfz78_6 hfz78_7 hfz78_8 => ?_))
                 go_roundg k2
                 case measure => have := HJ3.out; have := HK2.out; omega
                 case rel => exact ⟨(wrap64 (x38_2 + 1)), (y413), (.slice Ao77 y413.length co77), (by first | rfl | (simp; done) | (simp [*]; done)), H', ⟨by have := HJ3.out; have := HK2.out; omega⟩, ⟨by (with_reducible repeat (first | apply Kd.R_alloc | apply Kd.R_drewN | apply Kd.R_drew)); exact Kd.R_mono (Kd.R_far (p := ⟨gb409, 6, none⟩) (Kd.R_types HO415.out BK409.out (by decide)) (fun _ hk => hk.2) (.slice Ao77 y413.length co77)) (fun _ hk => trivial)⟩, ⟨by (with_reducible repeat (first | refine blk_drewN ?_ _ | refine blk_drew ?_ | refine blk_alloc ?_ _)); refine blk_far ?_ NB404_409.out _; (with_reducible repeat (first | refine blk_drewN ?_ _ | refine blk_drew ?_ | refine blk_alloc ?_ _)); exact BK404.out⟩, ⟨by (with_reducible repeat (first | refine blk_drewN ?_ _ | refine blk_drew ?_ | refine blk_alloc ?_ _)); refine blk_far ?_ NB405_409.out _; (with_reducible repeat (first | refine blk_drewN ?_ _ | refine blk_drew ?_ | refine blk_alloc ?_ _)); exact BK405.out⟩, ⟨by (with_reducible repeat (first | refine blk_drewN ?_ _ | refine blk_drew ?_ | refine blk_alloc ?_ _)); refine blk_far ?_ NB406_409.out _; (with_reducible repeat (first | refine blk_drewN ?_ _ | refine blk_drew ?_ | refine blk_alloc ?_ _)); exact BK406.out⟩, ⟨by (with_reducible repeat (first | refine blk_drewN ?_ _ | refine blk_drew ?_ | refine blk_alloc ?_ _)); refine blk_far ?_ NB407_409.out _; (with_reducible repeat (first | refine blk_drewN ?_ _ | refine blk_drew ?_ | refine blk_alloc ?_ _)); exact BK407.out⟩, ⟨by (with_reducible repeat (first | refine blk_drewN ?_ _ | refine blk_drew ?_ | refine blk_alloc ?_ _)); refine blk_put (cs := #[.int .i64 a0_0, .int .i64 a0_1, .int .i64 a0_2, .int .i64 a0_3, .int .i64 a0_4, .int .i64 a0_5, u410006, .slice none 0 0, .bool a0_8]) ?_ 6 _ rfl; (with_reducible repeat (first | refine blk_drewN ?_ _ | refine blk_drew ?_ | refine blk_alloc ?_ _)); exact BK409.out⟩, ⟨by repeat (first | (with_reducible first | exact HB.out | apply below_alloc | apply pw_below_drewN | apply below_drew1 | refine below_set ?_ GE404.out | refine below_set ?_ GE405.out | refine below_set ?_ GE406.out | refine below_set ?_ GE407.out | refine below_set ?_ GE409.out | refine below_set ?_ GE411.out) | exact HB.out)⟩⟩
               · rw [if_neg c61] at H
                 exact absurd H (by simp)
             · replace c60 := Bool.eq_false_iff.mpr c60
               subst c60
               rw [if_neg (show ¬ (false = true) by decide)] at H
               have H' := Aside0.mk H
               clear H
               have p410 : 0 ≤ (x38_2 : Int) := of_decide_eq_true (by first | (with_reducible assumption) | assumption)
               have q410 : x38_2 < (l0_6.length : Int) := of_decide_eq_true (by first | (with_reducible assumption) | assumption)
               obtain ⟨ad410, e410, hx410_0, hx410_1, hx410_2⟩ := at_T38 HR0_6.out x38_2 p410 q410
               cases e410
               replace hx410_0 := (HB.out.cell (World.block_lt_of_cell? w _ hx410_0)).trans hx410_0
               replace hx410_1 := (HB.out.cell (World.block_lt_of_cell? w _ hx410_1)).trans hx410_1
               replace hx410_2 := (HB.out.cell (World.block_lt_of_cell? w _ hx410_2)).trans hx410_2
               replace p410 := eq_true p410
               replace q410 := eq_true q410
               go_wp2_with (first | ((with_reducible refine gate_dst (N := 11) rfl ?_); refine box_event ?hg (N := 11) ?hd (cs := #[.string (⟨#[]⟩ : ByteArray), .int .i64 0, .int .i64 0]) (t := 38) ?hr ?_; (case hd => rfl); (case hg => rfl); (case hr => first | (go_simp; done) | (go_simp; rfl)); intro gb411 hg w79 hbox hb; have n0_ := Aside0.mk (Kd.R_below (Kd.R_elderB (kr_ HO_410006.out) gb411 (Nat.le_of_eq hg.symm)) hb); have n1_ := Aside0.mk (blk_below (kb_ BK404.out) hb); have n2_ := Aside0.mk (blk_below (kb_ BK405.out) hb); have n3_ := Aside0.mk (blk_below (kb_ BK406.out) hb); have n4_ := Aside0.mk (blk_below (kb_ BK407.out) hb); have n5_ := Aside0.mk (blk_below (kb_ BK409.out) hb); have n6_ := Aside0.mk (below_step (by repeat (first | (with_reducible first | exact HB.out | apply below_alloc | apply pw_below_drewN | apply below_drew1 | refine below_set ?_ GE404.out | refine below_set ?_ GE405.out | refine below_set ?_ GE406.out | refine below_set ?_ GE407.out | refine below_set ?_ GE409.out) | exact HB.out)) hb); have n7_ := Aside0.mk (hbox); have n8_ := Aside0.mk ((by rw [hg]; exact (below_size (by repeat (first | (with_reducible first | exact HB.out | apply below_alloc | apply pw_below_drewN | apply below_drew1 | refine below_set ?_ GE404.out | refine below_set ?_ GE405.out | refine below_set ?_ GE406.out | refine below_set ?_ GE407.out | refine below_set ?_ GE409.out) | exact HB.out))) : w.heap.size ≤ gb411)); have n9_ := Aside0.mk ((by rw [hg]; exact (below_size (by repeat (first | (with_reducible first | exact HB.out | apply below_alloc | apply pw_below_drewN | apply below_drew1 | refine below_set ?_ GE404.out | refine below_set ?_ GE405.out | refine below_set ?_ GE406.out | refine below_set ?_ GE407.out | refine below_set ?_ GE409.out) | exact HB.out))) : w.heap.size ≤ gb411)); have n10_ := Aside0.mk ((by rw [hg]; exact Nat.ne_of_lt (blk_lt (kb_ BK404.out)) : gb404 ≠ gb411)); have n11_ := Aside0.mk ((by rw [hg]; exact Nat.ne_of_gt (blk_lt (kb_ BK404.out)) : gb411 ≠ gb404)); have n12_ := Aside0.mk ((by rw [hg]; exact Nat.ne_of_lt (blk_lt (kb_ BK405.out)) : gb405 ≠ gb411)); have n13_ := Aside0.mk ((by rw [hg]; exact Nat.ne_of_gt (blk_lt (kb_ BK405.out)) : gb411 ≠ gb405)); have n14_ := Aside0.mk ((by rw [hg]; exact Nat.ne_of_lt (blk_lt (kb_ BK406.out)) : gb406 ≠ gb411)); have n15_ := Aside0.mk ((by rw [hg]; exact Nat.ne_of_gt (blk_lt (kb_ BK406.out)) : gb411 ≠ gb406)); have n16_ := Aside0.mk ((by rw [hg]; exact Nat.ne_of_lt (blk_lt (kb_ BK407.out)) : gb407 ≠ gb411)); have n17_ := Aside0.mk ((by rw [hg]; exact Nat.ne_of_gt (blk_lt (kb_ BK407.out)) : gb411 ≠ gb407)); have n18_ := Aside0.mk ((by rw [hg]; exact Nat.ne_of_lt (blk_lt (kb_ BK409.out)) : gb409 ≠ gb411)); have n19_ := Aside0.mk ((by rw [hg]; exact Nat.ne_of_gt (blk_lt (kb_ BK409.out)) : gb411 ≠ gb409)); clear HO_410006; clear BK404; clear BK405; clear BK406; clear BK407; clear BK409; clear HB; have HO_410006 := n0_; have BK404 := n1_; have BK405 := n2_; have BK406 := n3_; have BK407 := n4_; have BK409 := n5_; have HB := n6_; have BK411 := n7_; have GW411 := n8_; have GE411 := n9_; have NB404_411 := n10_; have NB411_404 := n11_; have NB405_411 := n12_; have NB411_405 := n13_; have NB406_411 := n14_; have NB411_406 := n15_; have NB407_411 := n16_; have NB411_407 := n17_; have NB409_411 := n18_; have NB411_409 := n19_; clear n0_ n1_ n2_ n3_ n4_ n5_ n6_ n7_ n8_ n9_ n10_ n11_ n12_ n13_ n14_ n15_ n16_ n17_ n18_ n19_; clear hb hbox hg; have hnb80 := NB411_404.out; have hnc80 := NB404_411.out; have hnb81 := NB411_405.out; have hnc81 := NB405_411.out; have hnb82 := NB411_406.out; have hnc82 := NB406_411.out; have hnb83 := NB411_407.out; have hnc83 := NB407_411.out; have hnb84 := NB411_409.out; have hnc84 := NB409_411.out; refine blk3_ BK411.out fun hcz85_0 hcz85_1 hcz85_2 hfz85_0 hfz85_1 hfz85_2 => ?_) | (go_at_call 34; (with_reducible refine (command_Part_1.calls ((rd_T38 l0_6 x38_2).f0) a2 a1 false _ ?side1 ?side2 A59.out).mono ?_); (case side1 => refine CapC.mk (show _ = some (Obj.cells #[.int .i64 a2] 3 (0, 0)) from ?_) rfl; (with_reducible repeat (first | refine blk_drewN ?_ _ | refine blk_drew ?_ | refine blk_alloc ?_ _)); refine blk_far ?_ NB406_411.out _; (with_reducible repeat (first | refine blk_drewN ?_ _ | refine blk_drew ?_ | refine blk_alloc ?_ _)); refine blk_far ?_ NB406_411.out _; (with_reducible repeat (first | refine blk_drewN ?_ _ | refine blk_drew ?_ | refine blk_alloc ?_ _)); refine blk_far ?_ NB406_411.out _; (with_reducible repeat (first | refine blk_drewN ?_ _ | refine blk_drew ?_ | refine blk_alloc ?_ _)); exact BK406.out); (case side2 => refine CapC.mk (show _ = some (Obj.cells #[.int .i64 a1] 3 (0, 0)) from ?_) rfl; (with_reducible repeat (first | refine blk_drewN ?_ _ | refine blk_drew ?_ | refine blk_alloc ?_ _)); refine blk_far ?_ NB405_411.out _; (with_reducible repeat (first | refine blk_drewN ?_ _ | refine blk_drew ?_ | refine blk_alloc ?_ _)); refine blk_far ?_ NB405_411.out _; (with_reducible repeat (first | refine blk_drewN ?_ _ | refine blk_drew ?_ | refine blk_alloc ?_ _)); refine blk_far ?_ NB405_411.out _; (with_reducible repeat (first | refine blk_drewN ?_ _ | refine blk_drew ?_ | refine blk_alloc ?_ _)); exact BK405.out); rintro e w86 ⟨rfl, hb⟩; have n0_ := Aside0.mk (Kd.R_below (by (with_reducible repeat (first | apply Kd.R_alloc | apply Kd.R_drewN | apply Kd.R_drew)); exact (Kd.R_mono (Kd.R_far (p := ⟨gb411, 2, none⟩) (Kd.R_far (p := ⟨gb411, 1, none⟩) (Kd.R_far (p := ⟨gb411, 0, none⟩) (Kd.R_mono HO_410006.out (fun k_ hk => (⟨hk, hk.2⟩ : _ ∧ k_ ≠ gb411))) (fun _ hk => hk.2) (.string ((rd_T38 l0_6 x38_2).f0))) (fun _ hk => hk.2) (.int .i64 ((rd_T38 l0_6 x38_2).f1.f0))) (fun _ hk => hk.2) (.int .i64 ((rd_T38 l0_6 x38_2).f1.f1))) (fun _ h_ => h_.1))) hb); have n1_ := Aside0.mk (blk_below (g := gb404) (o := .cells #[.int .i64 a0_0, .int .i64 a0_1, .int .i64 a0_2, .int .i64 a0_3, .int .i64 a0_4, .int .i64 a0_5, .slice (some ad410) l0_6.length c0_6, .slice A0_7 l0_7.length c0_7, .bool a0_8] 29 (0, 0)) (by (with_reducible repeat (first | refine blk_drewN ?_ _ | refine blk_drew ?_ | refine blk_alloc ?_ _)); refine blk_far ?_ NB404_411.out _; (with_reducible repeat (first | refine blk_drewN ?_ _ | refine blk_drew ?_ | refine blk_alloc ?_ _)); refine blk_far ?_ NB404_411.out _; (with_reducible repeat (first | refine blk_drewN ?_ _ | refine blk_drew ?_ | refine blk_alloc ?_ _)); refine blk_far ?_ NB404_411.out _; (with_reducible repeat (first | refine blk_drewN ?_ _ | refine blk_drew ?_ | refine blk_alloc ?_ _)); exact BK404.out) hb); have n2_ := Aside0.mk (blk_below (g := gb405) (o := .cells #[.int .i64 a1] 3 (0, 0)) (by (with_reducible repeat (first | refine blk_drewN ?_ _ | refine blk_drew ?_ | refine blk_alloc ?_ _)); refine blk_far ?_ NB405_411.out _; (with_reducible repeat (first | refine blk_drewN ?_ _ | refine blk_drew ?_ | refine blk_alloc ?_ _)); refine blk_far ?_ NB405_411.out _; (with_reducible repeat (first | refine blk_drewN ?_ _ | refine blk_drew ?_ | refine blk_alloc ?_ _)); refine blk_far ?_ NB405_411.out _; (with_reducible repeat (first | refine blk_drewN ?_ _ | refine blk_drew ?_ | refine blk_alloc ?_ _)); exact BK405.out) hb); have n3_ := Aside0.mk (blk_below (g := gb406) (o := .cells #[.int .i64 a2] 3 (0, 0)) (by (with_reducible repeat (first | refine blk_drewN ?_ _ | refine blk_drew ?_ | refine blk_alloc ?_ _)); refine blk_far ?_ NB406_411.out _; (with_reducible repeat (first | refine blk_drewN ?_ _ | refine blk_drew ?_ | refine blk_alloc ?_ _)); refine blk_far ?_ NB406_411.out _; (with_reducible repeat (first | refine blk_drewN ?_ _ | refine blk_drew ?_ | refine blk_alloc ?_ _)); refine blk_far ?_ NB406_411.out _; (with_reducible repeat (first | refine blk_drewN ?_ _ | refine blk_drew ?_ | refine blk_alloc ?_ _)); exact BK406.out) hb); have n4_ := Aside0.mk (blk_below (g := gb407) (o := .cells #[.int .i64 0, .int .i64 0, .int .i64 0, .int .i64 0, .int .i64 0, .int .i64 0, .slice none 0 0, .slice none 0 0, .bool false] 29 (0, 0)) (by (with_reducible repeat (first | refine blk_drewN ?_ _ | refine blk_drew ?_ | refine blk_alloc ?_ _)); refine blk_far ?_ NB407_411.out _; (with_reducible repeat (first | refine blk_drewN ?_ _ | refine blk_drew ?_ | refine blk_alloc ?_ _)); refine blk_far ?_ NB407_411.out _; (with_reducible repeat (first | refine blk_drewN ?_ _ | refine blk_drew ?_ | refine blk_alloc ?_ _)); refine blk_far ?_ NB407_411.out _; (with_reducible repeat (first | refine blk_drewN ?_ _ | refine blk_drew ?_ | refine blk_alloc ?_ _)); exact BK407.out) hb); have n5_ := Aside0.mk (blk_below (g := gb409) (o := .cells #[.int .i64 a0_0, .int .i64 a0_1, .int .i64 a0_2, .int .i64 a0_3, .int .i64 a0_4, .int .i64 a0_5, u410006, .slice none 0 0, .bool a0_8] 29 (0, 0)) (by (with_reducible repeat (first | refine blk_drewN ?_ _ | refine blk_drew ?_ | refine blk_alloc ?_ _)); refine blk_far ?_ NB409_411.out _; (with_reducible repeat (first | refine blk_drewN ?_ _ | refine blk_drew ?_ | refine blk_alloc ?_ _)); refine blk_far ?_ NB409_411.out _; (with_reducible repeat (first | refine blk_drewN ?_ _ | refine blk_drew ?_ | refine blk_alloc ?_ _)); refine blk_far ?_ NB409_411.out _; (with_reducible repeat (first | refine blk_drewN ?_ _ | refine blk_drew ?_ | refine blk_alloc ?_ _)); exact BK409.out) hb); have n6_ := Aside0.mk (blk_below (g := gb411) (o := .cells #[.string ((rd_T38 l0_6 x38_2).f0), .int .i64 ((rd_T38 l0_6 x38_2).f1.f0), .int .i64 ((rd_T38 l0_6 x38_2).f1.f1)] 38 (0, 0)) (by (with_reducible repeat (first | refine blk_drewN ?_ _ | refine blk_drew ?_ | refine blk_alloc ?_ _)); refine blk_put (cs := #[.string ((rd_T38 l0_6 x38_2).f0), .int .i64 ((rd_T38 l0_6 x38_2).f1.f0), .int .i64 0]) ?_ 2 _ rfl; (with_reducible repeat (first | refine blk_drewN ?_ _ | refine blk_drew ?_ | refine blk_alloc ?_ _)); refine blk_put (cs := #[.string ((rd_T38 l0_6 x38_2).f0), .int .i64 0, .int .i64 0]) ?_ 1 _ rfl; (with_reducible repeat (first | refine blk_drewN ?_ _ | refine blk_drew ?_ | refine blk_alloc ?_ _)); refine blk_put (cs := #[.string (⟨#[]⟩ : ByteArray), .int .i64 0, .int .i64 0]) ?_ 0 _ rfl; (with_reducible repeat (first | refine blk_drewN ?_ _ | refine blk_drew ?_ | refine blk_alloc ?_ _)); exact BK411.out) hb); have n7_ := Aside0.mk (below_step (by repeat (first | (with_reducible first | exact HB.out | apply below_alloc | apply pw_below_drewN | apply below_drew1 | refine below_set ?_ GE404.out | refine below_set ?_ GE405.out | refine below_set ?_ GE406.out | refine below_set ?_ GE407.out | refine below_set ?_ GE409.out | refine below_set ?_ GE411.out) | exact HB.out)) hb); clear HO_410006; clear BK404; clear BK405; clear BK406; clear BK407; clear BK409; clear BK411; clear HB; have HO_410006 := n0_; have BK404 := n1_; have BK405 := n2_; have BK406 := n3_; have BK407 := n4_; have BK409 := n5_; have BK411 := n6_; have HB := n7_; clear n0_ n1_ n2_ n3_ n4_ n5_ n6_ n7_; (try clear hb); (try clear hb2); (try clear hk); (try clear hi)))
               go_roundg k2
               case measure => have := HJ3.out; have := HK2.out; omega
               case rel => exact ⟨(wrap64 (x38_2 + 1)), (x410006_2), (u410006), (by first | rfl | (simp; done) | (simp [*]; done)), H', ⟨by have := HJ3.out; have := HK2.out; omega⟩, ⟨by (with_reducible repeat (first | apply Kd.R_alloc | apply Kd.R_drewN | apply Kd.R_drew)); exact Kd.R_mono HO_410006.out (fun _ hk => trivial)⟩, ⟨by (with_reducible repeat (first | refine blk_drewN ?_ _ | refine blk_drew ?_ | refine blk_alloc ?_ _)); exact BK404.out⟩, ⟨by (with_reducible repeat (first | refine blk_drewN ?_ _ | refine blk_drew ?_ | refine blk_alloc ?_ _)); exact BK405.out⟩, ⟨by (with_reducible repeat (first | refine blk_drewN ?_ _ | refine blk_drew ?_ | refine blk_alloc ?_ _)); exact BK406.out⟩, ⟨by (with_reducible repeat (first | refine blk_drewN ?_ _ | refine blk_drew ?_ | refine blk_alloc ?_ _)); exact BK407.out⟩, ⟨by (with_reducible repeat (first | refine blk_drewN ?_ _ | refine blk_drew ?_ | refine blk_alloc ?_ _)); exact BK409.out⟩, ⟨by repeat (first | (with_reducible first | exact HB.out | apply below_alloc | apply pw_below_drewN | apply below_drew1 | refine below_set ?_ GE404.out | refine below_set ?_ GE405.out | refine below_set ?_ GE406.out | refine below_set ?_ GE407.out | refine below_set ?_ GE409.out | refine below_set ?_ GE411.out) | exact HB.out)⟩⟩
           · rw [if_neg c58] at H
             exact absurd H (by simp)
         · rw [if_neg c57] at H
           exact absurd H (by simp)
       · rw [if_neg c56] at H
         have c56b0 : decide (x38_2 < (l0_6.length : Int)) = false := decide_eq_false c56
         clear c56
         have H' := Aside0.mk H
         clear H
         have hnb87 := NB404_405.out
         have hnc87 := NB405_404.out
         have hnb88 := NB404_406.out
         have hnc88 := NB406_404.out
         have hnb89 := NB404_407.out
         have hnc89 := NB407_404.out
         have hnb90 := NB404_409.out
         have hnc90 := NB409_404.out
         refine blk9_ BK404.out fun hcz91_0 hcz91_1 hcz91_2 hcz91_3 hcz91_4 hcz91_5 hcz91_6 hcz91_7 hcz91_8 hfz91_0 hfz91_1 hfz91_2 hfz91_3 hfz91_4 hfz91_5 hfz91_6 hfz91_7 hfz91_8 => ?_
         go_wp2
         go_loopg [56] k2 (fun kq v56 w' => ∃ (x56_3 : Int) (x410007_3 : List (S40)) (u410007 : Value), v56 = .int .i64 x56_3 ∧ Aside0 (command_Part.l1 kq l0_7 (l0_7.length : Int) x56_3 a1 a2 a0_0 a0_1 a0_2 a0_3 a0_4 a0_5 x410006_2 x410007_3 a0_8 = some (r1, r2, r3, r4, r5, r6, r7, r8, r9, r10)) ∧ Aside0 (kq ≤ k2) ∧ Aside0 (Kd.R k38 38 w' w.heap.size (fun _ => True) u410006 x410006_2) ∧ Aside0 (Kd.R k40 40 w' w.heap.size (fun _ => True) u410007 x410007_3) ∧ Aside0 (w'.heap[gb404]? = some (.cells #[.int .i64 a0_0, .int .i64 a0_1, .int .i64 a0_2, .int .i64 a0_3, .int .i64 a0_4, .int .i64 a0_5, (.slice A0_6 l0_6.length c0_6), (.slice A0_7 l0_7.length c0_7), .bool a0_8] 29 (0, 0))) ∧ Aside0 (w'.heap[gb405]? = some (.cells #[.int .i64 a1] 3 (0, 0))) ∧ Aside0 (w'.heap[gb406]? = some (.cells #[.int .i64 a2] 3 (0, 0))) ∧ Aside0 (w'.heap[gb407]? = some (.cells #[.int .i64 0, .int .i64 0, .int .i64 0, .int .i64 0, .int .i64 0, .int .i64 0, (.slice none 0 0), (.slice none 0 0), .bool false] 29 (0, 0))) ∧ Aside0 (w'.heap[gb409]? = some (.cells #[.int .i64 a0_0, .int .i64 a0_1, .int .i64 a0_2, .int .i64 a0_3, .int .i64 a0_4, .int .i64 a0_5, u410006, u410007, .bool a0_8] 29 (0, 0))) ∧ Aside0 (Below w.heap.size w w'))
         case atStart => exact ⟨(0), (([] : List (S40))), (.slice none 0 0), (by first | rfl | (simp; done) | (simp [*]; done)), H', ⟨Nat.le_refl _⟩, ⟨by (with_reducible repeat (first | apply Kd.R_alloc | apply Kd.R_drewN | apply Kd.R_drew)); exact HO_410006.out⟩, ⟨by first | exact Kd.R_nil _ _ _ _ _ | exact Kd.N_nil _ _ _ _ _ | exact Kd.V_nil _ _ _ _ _ | exact Kd.Q_nil _ _ _ _ _ | exact Kd.S_nil _ _ _ _ _⟩, ⟨by (with_reducible repeat (first | refine blk_drewN ?_ _ | refine blk_drew ?_ | refine blk_alloc ?_ _)); exact BK404.out⟩, ⟨by (with_reducible repeat (first | refine blk_drewN ?_ _ | refine blk_drew ?_ | refine blk_alloc ?_ _)); exact BK405.out⟩, ⟨by (with_reducible repeat (first | refine blk_drewN ?_ _ | refine blk_drew ?_ | refine blk_alloc ?_ _)); exact BK406.out⟩, ⟨by (with_reducible repeat (first | refine blk_drewN ?_ _ | refine blk_drew ?_ | refine blk_alloc ?_ _)); exact BK407.out⟩, ⟨by (with_reducible repeat (first | refine blk_drewN ?_ _ | refine blk_drew ?_ | refine blk_alloc ?_ _)); exact BK409.out⟩, ⟨by repeat (first | (with_reducible first | exact HB.out | apply below_alloc | apply pw_below_drewN | apply below_drew1 | refine below_set ?_ GE404.out | refine below_set ?_ GE405.out | refine below_set ?_ GE406.out | refine below_set ?_ GE407.out | refine below_set ?_ GE409.out) | exact HB.out)⟩⟩
         case round =>
          clear H'
          try clear c1
          try clear c2
          try clear p2
          try clear c3
          try clear c4
          try clear p4
          try clear q4
          try clear hx4
          try clear c5
          try clear c6
          try clear p6
          try clear c7
          try clear c8
          try clear c9
          try clear c10
          try clear c11
          try clear c11b0
          try clear c11b1
          try clear c14
          try clear c15
          try clear c16
          try clear c18
          try clear c18b0
          try clear c21
          try clear c22
          try clear c23
          try clear c25
          try clear c26
          try clear c30
          try clear c31
          try clear c32
          try clear c34
          try clear c35
          try clear c39
          try clear c40
          try clear c41
          try clear p41
          try clear q41
          try clear hx41
          try clear c42
          try clear c47
          try clear c48
          try clear c49
          try clear c50
          try clear c52
          try clear c53
          try clear c54
          try clear c56
          try clear c56b0
          try clear c57
          try clear c57b0
          try clear c58
          try clear c58b0
          try clear c60
          try clear c61
          try clear c63
          try clear c64
          try clear p64
          try clear c65
          try clear c66
          try clear c67
          try clear c70
          try clear c71
          try clear c72
          try clear c73
          try clear c80
          try clear c81
          try clear c82
          try clear c83
          try clear c84
          try clear c87
          try clear c88
          try clear c89
          try clear c90
          try clear hcz17_0 hcz17_1 hcz17_2 hcz17_3 hcz17_4 hcz17_5 hcz17_6 hcz17_7 hcz17_8
          try clear hcz24_0 hcz24_1 hcz24_2 hcz24_3 hcz24_4 hcz24_5 hcz24_6 hcz24_7 hcz24_8
          try clear hcz27_0
          try clear hcz33_0 hcz33_1 hcz33_2 hcz33_3 hcz33_4 hcz33_5 hcz33_6 hcz33_7 hcz33_8
          try clear hcz36_0
          try clear hcz43_0 hcz43_1 hcz43_2 hcz43_3 hcz43_4 hcz43_5 hcz43_6 hcz43_7 hcz43_8
          try clear hcz51_0 hcz51_1 hcz51_2 hcz51_3 hcz51_4 hcz51_5 hcz51_6 hcz51_7 hcz51_8
          try clear hcz55_0 hcz55_1 hcz55_2 hcz55_3 hcz55_4 hcz55_5 hcz55_6 hcz55_7 hcz55_8
          try clear hcz68_0 hcz68_1 hcz68_2
          try clear hcz74_0 hcz74_1 hcz74_2 hcz74_3 hcz74_4 hcz74_5 hcz74_6 hcz74_7 hcz74_8
          try clear hcz75_0 hcz75_1 hcz75_2
          try clear hcz78_0 hcz78_1 hcz78_2 hcz78_3 hcz78_4 hcz78_5 hcz78_6 hcz78_7 hcz78_8
          try clear hcz85_0 hcz85_1 hcz85_2
          try clear hcz91_0 hcz91_1 hcz91_2 hcz91_3 hcz91_4 hcz91_5 hcz91_6 hcz91_7 hcz91_8
          try clear hfz17_0 hfz17_1 hfz17_2 hfz17_3 hfz17_4 hfz17_5 hfz17_6 hfz17_7 hfz17_8
          try clear hfz24_0 hfz24_1 hfz24_2 hfz24_3 hfz24_4 hfz24_5 hfz24_6 hfz24_7 hfz24_8
          try clear hfz27_0
          try clear hfz33_0 hfz33_1 hfz33_2 hfz33_3 hfz33_4 hfz33_5 hfz33_6 hfz33_7 hfz33_8
          try clear hfz36_0
          try clear hfz43_0 hfz43_1 hfz43_2 hfz43_3 hfz43_4 hfz43_5 hfz43_6 hfz43_7 hfz43_8
          try clear hfz51_0 hfz51_1 hfz51_2 hfz51_3 hfz51_4 hfz51_5 hfz51_6 hfz51_7 hfz51_8
          try clear hfz55_0 hfz55_1 hfz55_2 hfz55_3 hfz55_4 hfz55_5 hfz55_6 hfz55_7 hfz55_8
          try clear hfz68_0 hfz68_1 hfz68_2
          try clear hfz74_0 hfz74_1 hfz74_2 hfz74_3 hfz74_4 hfz74_5 hfz74_6 hfz74_7 hfz74_8
          try clear hfz75_0 hfz75_1 hfz75_2
          try clear hfz78_0 hfz78_1 hfz78_2 hfz78_3 hfz78_4 hfz78_5 hfz78_6 hfz78_7 hfz78_8
          try clear hfz85_0 hfz85_1 hfz85_2
          try clear hfz91_0 hfz91_1 hfz91_2 hfz91_3 hfz91_4 hfz91_5 hfz91_6 hfz91_7 hfz91_8
          try clear hx410_0
          try clear hx410_1
          try clear hx410_2
          try clear p2
          try clear p410
          try clear q410
          (try clear BK404); (try clear BK405); (try clear BK406); (try clear BK407); (try clear BK409)
          obtain ⟨x56_3, x410007_3, u410007, rfl, HA, HK3, HO_410006, HO_410007, BK404, BK405, BK406, BK407, BK409, HB⟩ := hrel
          cases gk with
          | zero => exact absurd HA.out (by simp [command_Part.l1])
          | succ k3 =>
           have H := HA.out
           clear HA
           simp only [command_Part.l1] at H
           by_cases c92 : x56_3 < (l0_7.length : Int)
           · rw [if_pos c92] at H
             have c92b0 : decide (x56_3 < (l0_7.length : Int)) = true := decide_eq_true c92
             clear c92
             by_cases c93 : 0 ≤ x56_3
             · rw [if_pos c93] at H
               have c93b0 : decide (0 ≤ x56_3) = true := decide_eq_true c93
               clear c93
               by_cases c94 : x56_3 < (l0_7.length : Int)
               · rw [if_pos c94] at H
                 have c94b0 : decide (x56_3 < (l0_7.length : Int)) = true := decide_eq_true c94
                 clear c94
                 obtain ⟨t418, A95, H⟩ := bs_ H
                 by_cases c96 : t418 = true
                 · subst c96
                   rw [if_pos rfl] at H
                   by_cases c97 : x410007_3.length < 4398046511104
                   · rw [if_pos c97] at H
                     have LMc97 := Aside0.mk c97
                     clear c97
                     obtain ⟨y419, hy419⟩ : ∃ y_ : List (S40), y_ = (x410007_3 ++ [(⟨(rd_T40 l0_7 x56_3).f0, (rd_T40 l0_7 x56_3).f1⟩ : S40)]) := ⟨_, rfl⟩
                     replace H : (command_Part.l1 k3 l0_7 (l0_7.length : Int) (wrap64 (x56_3 + 1)) a1 a2 a0_0 a0_1 a0_2 a0_3 a0_4 a0_5 x410006_2 y419 a0_8) = some (r1, r2, r3, r4, r5, r6, r7, r8, r9, r10) := by first | (rw [hy419]; with_reducible exact H) | (have H2_ := (Option.bind_some _ _).symm.trans H; rw [hy419]; with_reducible exact H2_) | (have H2_ := (Option.bind_some _ _).symm.trans H; with_reducible exact H2_) | with_reducible exact H | (rw [hy419]; exact H) | exact H
                     have Ny419 := Aside0.mk hy419
                     clear hy419
                     have H' := Aside0.mk H
                     clear H
                     have p416 : 0 ≤ (x56_3 : Int) := of_decide_eq_true (by first | (with_reducible assumption) | assumption)
                     have q416 : x56_3 < (l0_7.length : Int) := of_decide_eq_true (by first | (with_reducible assumption) | assumption)
                     obtain ⟨ad416, e416, hx416_0, hx416_1⟩ := at_T40 HR0_7.out x56_3 p416 q416
                     cases e416
                     replace hx416_0 := (HB.out.cell (World.block_lt_of_cell? w _ hx416_0)).trans hx416_0
                     replace hx416_1 := (HB.out.cell (World.block_lt_of_cell? w _ hx416_1)).trans hx416_1
                     replace p416 := eq_true p416
                     replace q416 := eq_true q416
                     go_wp2_with (first | ((with_reducible refine gate_dst (N := 13) rfl ?_); refine box_event ?hg (N := 13) ?hd (cs := #[.string (⟨#[]⟩ : ByteArray), .string (⟨#[]⟩ : ByteArray)]) (t := 40) ?hr ?_; (case hd => rfl); (case hg => rfl); (case hr => first | (go_simp; done) | (go_simp; rfl)); intro gb417 hg w98 hbox hb; have n0_ := Aside0.mk (Kd.R_below (kr_ HO_410006.out) hb); have n1_ := Aside0.mk (Kd.R_below (Kd.R_elderB (kr_ HO_410007.out) gb417 (Nat.le_of_eq hg.symm)) hb); have n2_ := Aside0.mk (blk_below (kb_ BK404.out) hb); have n3_ := Aside0.mk (blk_below (kb_ BK405.out) hb); have n4_ := Aside0.mk (blk_below (kb_ BK406.out) hb); have n5_ := Aside0.mk (blk_below (kb_ BK407.out) hb); have n6_ := Aside0.mk (blk_below (kb_ BK409.out) hb); have n7_ := Aside0.mk (below_step (by repeat (first | (with_reducible first | exact HB.out | apply below_alloc | apply pw_below_drewN | apply below_drew1 | refine below_set ?_ GE404.out | refine below_set ?_ GE405.out | refine below_set ?_ GE406.out | refine below_set ?_ GE407.out | refine below_set ?_ GE409.out) | exact HB.out)) hb); have n8_ := Aside0.mk (hbox); have n9_ := Aside0.mk ((by rw [hg]; exact (below_size (by repeat (first | (with_reducible first | exact HB.out | apply below_alloc | apply pw_below_drewN | apply below_drew1 | refine below_set ?_ GE404.out | refine below_set ?_ GE405.out | refine below_set ?_ GE406.out | refine below_set ?_ GE407.out | refine below_set ?_ GE409.out) | exact HB.out))) : w.heap.size ≤ gb417)); have n10_ := Aside0.mk ((by rw [hg]; exact (below_size (by repeat (first | (with_reducible first | exact HB.out | apply below_alloc | apply pw_below_drewN | apply below_drew1 | refine below_set ?_ GE404.out | refine below_set ?_ GE405.out | refine below_set ?_ GE406.out | refine below_set ?_ GE407.out | refine below_set ?_ GE409.out) | exact HB.out))) : w.heap.size ≤ gb417)); have n11_ := Aside0.mk ((by rw [hg]; exact Nat.ne_of_lt (blk_lt (kb_ BK404.out)) : gb404 ≠ gb417)); have n12_ := Aside0.mk ((by rw [hg]; exact Nat.ne_of_gt (blk_lt (kb_ BK404.out)) : gb417 ≠ gb404)); have n13_ := Aside0.mk ((by rw [hg]; exact Nat.ne_of_lt (blk_lt (kb_ BK405.out)) : gb405 ≠ gb417)); have n14_ := Aside0.mk ((by rw [hg]; exact Nat.ne_of_gt (blk_lt (kb_ BK405.out)) : gb417 ≠ gb405)); have n15_ := Aside0.mk ((by rw [hg]; exact Nat.ne_of_lt (blk_lt (kb_ BK406.out)) : gb406 ≠ gb417)); have n16_ := Aside0.mk ((by rw [hg]; exact Nat.ne_of_gt (blk_lt (kb_ BK406.out)) : gb417 ≠ gb406)); have n17_ := Aside0.mk ((by rw [hg]; exact Nat.ne_of_lt (blk_lt (kb_ BK407.out)) : gb407 ≠ gb417)); have n18_ := Aside0.mk ((by rw [hg]; exact Nat.ne_of_gt (blk_lt (kb_ BK407.out)) : gb417 ≠ gb407)); have n19_ := Aside0.mk ((by rw [hg]; exact Nat.ne_of_lt (blk_lt (kb_ BK409.out)) : gb409 ≠ gb417)); have n20_ := Aside0.mk ((by rw [hg]; exact Nat.ne_of_gt (blk_lt (kb_ BK409.out)) : gb417 ≠ gb409)); clear HO_410006; clear HO_410007; clear BK404; clear BK405; clear BK406; clear BK407; clear BK409; clear HB; have HO_410006 := n0_; have HO_410007 := n1_; have BK404 := n2_; have BK405 := n3_; have BK406 := n4_; have BK407 := n5_; have BK409 := n6_; have HB := n7_; have BK417 := n8_; have GW417 := n9_; have GE417 := n10_; have NB404_417 := n11_; have NB417_404 := n12_; have NB405_417 := n13_; have NB417_405 := n14_; have NB406_417 := n15_; have NB417_406 := n16_; have NB407_417 := n17_; have NB417_407 := n18_; have NB409_417 := n19_; have NB417_409 := n20_; clear n0_ n1_ n2_ n3_ n4_ n5_ n6_ n7_ n8_ n9_ n10_ n11_ n12_ n13_ n14_ n15_ n16_ n17_ n18_ n19_ n20_; clear hb hbox hg; have hnb99 := NB417_404.out; have hnc99 := NB404_417.out; have hnb100 := NB417_405.out; have hnc100 := NB405_417.out; have hnb101 := NB417_406.out; have hnc101 := NB406_417.out; have hnb102 := NB417_407.out; have hnc102 := NB407_417.out; have hnb103 := NB417_409.out; have hnc103 := NB409_417.out; refine blk2_ BK417.out fun hcz104_0 hcz104_1 hfz104_0 hfz104_1 => ?_) | (go_at_call 34; (with_reducible refine (command_Part_1.calls ((rd_T40 l0_7 x56_3).f0) a2 a1 true _ ?side1 ?side2 A95.out).mono ?_); (case side1 => refine CapC.mk (show _ = some (Obj.cells #[.int .i64 a2] 3 (0, 0)) from ?_) rfl; (with_reducible repeat (first | refine blk_drewN ?_ _ | refine blk_drew ?_ | refine blk_alloc ?_ _)); refine blk_far ?_ NB406_417.out _; (with_reducible repeat (first | refine blk_drewN ?_ _ | refine blk_drew ?_ | refine blk_alloc ?_ _)); refine blk_far ?_ NB406_417.out _; (with_reducible repeat (first | refine blk_drewN ?_ _ | refine blk_drew ?_ | refine blk_alloc ?_ _)); exact BK406.out); (case side2 => refine CapC.mk (show _ = some (Obj.cells #[.int .i64 a1] 3 (0, 0)) from ?_) rfl; (with_reducible repeat (first | refine blk_drewN ?_ _ | refine blk_drew ?_ | refine blk_alloc ?_ _)); refine blk_far ?_ NB405_417.out _; (with_reducible repeat (first | refine blk_drewN ?_ _ | refine blk_drew ?_ | refine blk_alloc ?_ _)); refine blk_far ?_ NB405_417.out _; (with_reducible repeat (first | refine blk_drewN ?_ _ | refine blk_drew ?_ | refine blk_alloc ?_ _)); exact BK405.out); rintro e w105 ⟨rfl, hb⟩; have n0_ := Aside0.mk (Kd.R_below (by (with_reducible repeat (first | apply Kd.R_alloc | apply Kd.R_drewN | apply Kd.R_drew)); exact (Kd.R_mono (Kd.R_far (p := ⟨gb417, 1, none⟩) (Kd.R_far (p := ⟨gb417, 0, none⟩) (Kd.R_types HO_410006.out BK417.out (by decide)) (fun _ hk => hk.2) (.string ((rd_T40 l0_7 x56_3).f0))) (fun _ hk => hk.2) (.string ((rd_T40 l0_7 x56_3).f1))) (fun _ h_ => h_.1))) hb); have n1_ := Aside0.mk (Kd.R_below (by (with_reducible repeat (first | apply Kd.R_alloc | apply Kd.R_drewN | apply Kd.R_drew)); exact (Kd.R_mono (Kd.R_far (p := ⟨gb417, 1, none⟩) (Kd.R_far (p := ⟨gb417, 0, none⟩) (Kd.R_mono HO_410007.out (fun k_ hk => (⟨hk, hk.2⟩ : _ ∧ k_ ≠ gb417))) (fun _ hk => hk.2) (.string ((rd_T40 l0_7 x56_3).f0))) (fun _ hk => hk.2) (.string ((rd_T40 l0_7 x56_3).f1))) (fun _ h_ => h_.1))) hb); have n2_ := Aside0.mk (blk_below (g := gb404) (o := .cells #[.int .i64 a0_0, .int .i64 a0_1, .int .i64 a0_2, .int .i64 a0_3, .int .i64 a0_4, .int .i64 a0_5, .slice A0_6 l0_6.length c0_6, .slice (some ad416) l0_7.length c0_7, .bool a0_8] 29 (0, 0)) (by (with_reducible repeat (first | refine blk_drewN ?_ _ | refine blk_drew ?_ | refine blk_alloc ?_ _)); refine blk_far ?_ NB404_417.out _; (with_reducible repeat (first | refine blk_drewN ?_ _ | refine blk_drew ?_ | refine blk_alloc ?_ _)); refine blk_far ?_ NB404_417.out _; (with_reducible repeat (first | refine blk_drewN ?_ _ | refine blk_drew ?_ | refine blk_alloc ?_ _)); exact BK404.out) hb); have n3_ := Aside0.mk (blk_below (g := gb405) (o := .cells #[.int .i64 a1] 3 (0, 0)) (by (with_reducible repeat (first | refine blk_drewN ?_ _ | refine blk_drew ?_ | refine blk_alloc ?_ _)); refine blk_far ?_ NB405_417.out _; (with_reducible repeat (first | refine blk_drewN ?_ _ | refine blk_drew ?_ | refine blk_alloc ?_ _)); refine blk_far ?_ NB405_417.out _; (with_reducible repeat (first | refine blk_drewN ?_ _ | refine blk_drew ?_ | refine blk_alloc ?_ _)); exact BK405.out) hb); have n4_ := Aside0.mk (blk_below (g := gb406) (o := .cells #[.int .i64 a2] 3 (0, 0)) (by (with_reducible repeat (first | refine blk_drewN ?_ _ | refine blk_drew ?_ | refine blk_alloc ?_ _)); refine blk_far ?_ NB406_417.out _; (with_reducible repeat (first | refine blk_drewN ?_ _ | refine blk_drew ?_ | refine blk_alloc ?_ _)); refine blk_far ?_ NB406_417.out _; (with_reducible repeat (first | refine blk_drewN ?_ _ | refine blk_drew ?_ | refine blk_alloc ?_ _)); exact BK406.out) hb); have n5_ := Aside0.mk (blk_below (g := gb407) (o := .cells #[.int .i64 0, .int .i64 0, .int .i64 0, .int .i64 0, .int .i64 0, .int .i64 0, .slice none 0 0, .slice none 0 0, .bool false] 29 (0, 0)) (by (with_reducible repeat (first | refine blk_drewN ?_ _ | refine blk_drew ?_ | refine blk_alloc ?_ _)); refine blk_far ?_ NB407_417.out _; (with_reducible repeat (first | refine blk_drewN ?_ _ | refine blk_drew ?_ | refine blk_alloc ?_ _)); refine blk_far ?_ NB407_417.out _; (with_reducible repeat (first | refine blk_drewN ?_ _ | refine blk_drew ?_ | refine blk_alloc ?_ _)); exact BK407.out) hb); have n6_ := Aside0.mk (blk_below (g := gb409) (o := .cells #[.int .i64 a0_0, .int .i64 a0_1, .int .i64 a0_2, .int .i64 a0_3, .int .i64 a0_4, .int .i64 a0_5, u410006, u410007, .bool a0_8] 29 (0, 0)) (by (with_reducible repeat (first | refine blk_drewN ?_ _ | refine blk_drew ?_ | refine blk_alloc ?_ _)); refine blk_far ?_ NB409_417.out _; (with_reducible repeat (first | refine blk_drewN ?_ _ | refine blk_drew ?_ | refine blk_alloc ?_ _)); refine blk_far ?_ NB409_417.out _; (with_reducible repeat (first | refine blk_drewN ?_ _ | refine blk_drew ?_ | refine blk_alloc ?_ _)); exact BK409.out) hb); have n7_ := Aside0.mk (blk_below (g := gb417) (o := .cells #[.string ((rd_T40 l0_7 x56_3).f0), .string ((rd_T40 l0_7 x56_3).f1)] 40 (0, 0)) (by (with_reducible repeat (first | refine blk_drewN ?_ _ | refine blk_drew ?_ | refine blk_alloc ?_ _)); refine blk_put (cs := #[.string ((rd_T40 l0_7 x56_3).f0), .string (⟨#[]⟩ : ByteArray)]) ?_ 1 _ rfl; (with_reducible repeat (first | refine blk_drewN ?_ _ | refine blk_drew ?_ | refine blk_alloc ?_ _)); refine blk_put (cs := #[.string (⟨#[]⟩ : ByteArray), .string (⟨#[]⟩ : ByteArray)]) ?_ 0 _ rfl; (with_reducible repeat (first | refine blk_drewN ?_ _ | refine blk_drew ?_ | refine blk_alloc ?_ _)); exact BK417.out) hb); have n8_ := Aside0.mk (below_step (by repeat (first | (with_reducible first | exact HB.out | apply below_alloc | apply pw_below_drewN | apply below_drew1 | refine below_set ?_ GE404.out | refine below_set ?_ GE405.out | refine below_set ?_ GE406.out | refine below_set ?_ GE407.out | refine below_set ?_ GE409.out | refine below_set ?_ GE417.out) | exact HB.out)) hb); clear HO_410006; clear HO_410007; clear BK404; clear BK405; clear BK406; clear BK407; clear BK409; clear BK417; clear HB; have HO_410006 := n0_; have HO_410007 := n1_; have BK404 := n2_; have BK405 := n3_; have BK406 := n4_; have BK407 := n5_; have BK409 := n6_; have BK417 := n7_; have HB := n8_; clear n0_ n1_ n2_ n3_ n4_ n5_ n6_ n7_ n8_; (try clear hb); (try clear hb2); (try clear hk); (try clear hi); have hnb106 := NB409_404.out; have hnc106 := NB404_409.out; have hnb107 := NB409_405.out; have hnc107 := NB405_409.out; have hnb108 := NB409_406.out; have hnc108 := NB406_409.out; have hnb109 := NB409_407.out; have hnc109 := NB407_409.out; refine blk9_ BK409.out fun hcz110_0 hcz110_1 hcz110_2 hcz110_3 hcz110_4 hcz110_5 hcz110_6 hcz110_7 hcz110_8 hfz110_0 hfz110_1 hfz110_2 hfz110_3 hfz110_4 hfz110_5 hfz110_6 hfz110_7 hfz110_8 => ?_; refine blk2_ BK417.out fun hcz111_0 hcz111_1 hfz111_0 hfz111_1 => ?_) | ((with_reducible refine gate_builtin (b := .append) (xs := #[.tmp 65, .tmp 67]) rfl ?_); at_builtin; refine Kd.R_append k40 (w0 := w) w.heap.size rfl (.tmp 65) (.tmp 67) 27 40 (.agg #[(.string ⟨#[]⟩), (.string ⟨#[]⟩)]) 32 rfl Try.underlying27 info40 rfl (by decide) (by omega) u410007 x410007_3 (⟨(rd_T40 l0_7 x56_3).f0, (rd_T40 l0_7 x56_3).f1⟩ : S40) [.string ((rd_T40 l0_7 x56_3).f0), .string ((rd_T40 l0_7 x56_3).f1)] (fun k_ => k_ ≠ gb417) (fun _ => False) rfl rfl ?aP (fun _ hk => hk.elim) ?aF ?aO ?aB ?aS ?aL ?_; (case aP => exact k40_mkM _ _ _ (⟨(rd_T40 l0_7 x56_3).f0, (rd_T40 l0_7 x56_3).f1⟩ : S40)); (case aB => exact (by repeat (first | (with_reducible first | exact HB.out | apply below_alloc | apply pw_below_drewN | apply below_drew1 | refine below_set ?_ GE404.out | refine below_set ?_ GE405.out | refine below_set ?_ GE406.out | refine below_set ?_ GE407.out | refine below_set ?_ GE409.out | refine below_set ?_ GE417.out) | exact HB.out))); (case aF => exact (fun k_ hk => Kd.freshB (g := gb417) (o := .cells #[.string ((rd_T40 l0_7 x56_3).f0), .string ((rd_T40 l0_7 x56_3).f1)] 40 (0, 0)) (kb_ BK417.out) k_ hk)); (case aO => exact (by (with_reducible repeat (first | apply Kd.R_alloc | apply Kd.R_drewN | apply Kd.R_drew)); exact Kd.R_mono HO_410007.out (fun _ hk => hk.2))); (case aS => exact (below_size (by repeat (first | (with_reducible first | exact HB.out | apply below_alloc | apply pw_below_drewN | apply below_drew1 | refine below_set ?_ GE404.out | refine below_set ?_ GE405.out | refine below_set ?_ GE406.out | refine below_set ?_ GE407.out | refine below_set ?_ GE409.out | refine below_set ?_ GE417.out) | exact HB.out)))); (case aL => have := LMc97.out; omega); intro v420 w112 ho hb hg hat; rw [← Ny419.out] at ho; have n0_ := Aside0.mk (Kd.R_over' (kr_ HO_410006.out) (Kd.R_typed (kr_ HO_410007.out)) (by decide) hg); have n1_ := Aside0.mk (blk_grown (kb_ BK404.out) hg (Kd.R_ne HO_410007.out BK404.out (by decide))); have n2_ := Aside0.mk (blk_grown (kb_ BK405.out) hg (Kd.R_ne HO_410007.out BK405.out (by decide))); have n3_ := Aside0.mk (blk_grown (kb_ BK406.out) hg (Kd.R_ne HO_410007.out BK406.out (by decide))); have n4_ := Aside0.mk (blk_grown (kb_ BK407.out) hg (Kd.R_ne HO_410007.out BK407.out (by decide))); have n5_ := Aside0.mk (blk_grown (kb_ BK409.out) hg (Kd.R_ne HO_410007.out BK409.out (by decide))); have n6_ := Aside0.mk (blk_grown (kb_ BK417.out) hg (Kd.R_away HO_410007.out (fun _ hk => hk.2))); have n7_ := Aside0.mk (hb); have n8_ := Aside0.mk (ho); clear HO_410006; clear BK404; clear BK405; clear BK406; clear BK407; clear BK409; clear BK417; clear HB; clear HO_410007; have HO_410006 := n0_; have BK404 := n1_; have BK405 := n2_; have BK406 := n3_; have BK407 := n4_; have BK409 := n5_; have BK417 := n6_; have HB := n7_; have HO421 := n8_; clear n0_ n1_ n2_ n3_ n4_ n5_ n6_ n7_ n8_; clear ho hb hg hat; obtain ⟨Ao113, co113, eo113⟩ := Kd.R_slice HO421.out; subst eo113; refine blk9_ BK409.out fun hcz114_0 hcz114_1 hcz114_2 hcz114_3 hcz114_4 hcz114_5 hcz114_6 hcz114_7 hcz114_8 hfz114_0 hfz114_1 hfz114_2 hfz114_3 hfz114_4 hfz114_5 hfz114_6 hfz114_7 hfz114_8 => ?_))
                     go_roundg k3
                     case measure => have := HJ3.out; have := HK2.out; have := HK3.out; omega
                     case rel => exact ⟨(wrap64 (x56_3 + 1)), (y419), (.slice Ao113 y419.length co113), (by first | rfl | (simp; done) | (simp [*]; done)), H', ⟨by have := HJ3.out; have := HK2.out; have := HK3.out; omega⟩, ⟨by (with_reducible repeat (first | apply Kd.R_alloc | apply Kd.R_drewN | apply Kd.R_drew)); exact Kd.R_mono (Kd.R_far (p := ⟨gb409, 7, none⟩) (Kd.R_types HO_410006.out BK409.out (by decide)) (fun _ hk => hk.2) (.slice Ao113 y419.length co113)) (fun _ hk => trivial)⟩, ⟨by (with_reducible repeat (first | apply Kd.R_alloc | apply Kd.R_drewN | apply Kd.R_drew)); exact Kd.R_mono (Kd.R_far (p := ⟨gb409, 7, none⟩) (Kd.R_types HO421.out BK409.out (by decide)) (fun _ hk => hk.2) (.slice Ao113 y419.length co113)) (fun _ hk => trivial)⟩, ⟨by (with_reducible repeat (first | refine blk_drewN ?_ _ | refine blk_drew ?_ | refine blk_alloc ?_ _)); refine blk_far ?_ NB404_409.out _; (with_reducible repeat (first | refine blk_drewN ?_ _ | refine blk_drew ?_ | refine blk_alloc ?_ _)); exact BK404.out⟩, ⟨by (with_reducible repeat (first | refine blk_drewN ?_ _ | refine blk_drew ?_ | refine blk_alloc ?_ _)); refine blk_far ?_ NB405_409.out _; (with_reducible repeat (first | refine blk_drewN ?_ _ | refine blk_drew ?_ | refine blk_alloc ?_ _)); exact BK405.out⟩, ⟨by (with_reducible repeat (first | refine blk_drewN ?_ _ | refine blk_drew ?_ | refine blk_alloc ?_ _)); refine blk_far ?_ NB406_409.out _; (with_reducible repeat (first | refine blk_drewN ?_ _ | refine blk_drew ?_ | refine blk_alloc ?_ _)); exact BK406.out⟩, ⟨by (with_reducible repeat (first | refine blk_drewN ?_ _ | refine blk_drew ?_ | refine blk_alloc ?_ _)); refine blk_far ?_ NB407_409.out _; (with_reducible repeat (first | refine blk_drewN ?_ _ | refine blk_drew ?_ | refine blk_alloc ?_ _)); exact BK407.out⟩, ⟨by (with_reducible repeat (first | refine blk_drewN ?_ _ | refine blk_drew ?_ | refine blk_alloc ?_ _)); refine blk_put (cs := #[.int .i64 a0_0, .int .i64 a0_1, .int .i64 a0_2, .int .i64 a0_3, .int .i64 a0_4, .int .i64 a0_5, u410006, u410007, .bool a0_8]) ?_ 7 _ rfl; (with_reducible repeat (first | refine blk_drewN ?_ _ | refine blk_drew ?_ | refine blk_alloc ?_ _)); exact BK409.out⟩, ⟨by repeat (first | (with_reducible first | exact HB.out | apply below_alloc | apply pw_below_drewN | apply below_drew1 | refine below_set ?_ GE404.out | refine below_set ?_ GE405.out | refine below_set ?_ GE406.out | refine below_set ?_ GE407.out | refine below_set ?_ GE409.out | refine below_set ?_ GE417.out) | exact HB.out)⟩⟩
                   · rw [if_neg c97] at H
                     exact absurd H (by simp)
                 · replace c96 := Bool.eq_false_iff.mpr c96
                   subst c96
                   rw [if_neg (show ¬ (false = true) by decide)] at H
                   have H' := Aside0.mk H
                   clear H
                   have p416 : 0 ≤ (x56_3 : Int) := of_decide_eq_true (by first | (with_reducible assumption) | assumption)
                   have q416 : x56_3 < (l0_7.length : Int) := of_decide_eq_true (by first | (with_reducible assumption) | assumption)
                   obtain ⟨ad416, e416, hx416_0, hx416_1⟩ := at_T40 HR0_7.out x56_3 p416 q416
                   cases e416
                   replace hx416_0 := (HB.out.cell (World.block_lt_of_cell? w _ hx416_0)).trans hx416_0
                   replace hx416_1 := (HB.out.cell (World.block_lt_of_cell? w _ hx416_1)).trans hx416_1
                   replace p416 := eq_true p416
                   replace q416 := eq_true q416
                   go_wp2_with (first | ((with_reducible refine gate_dst (N := 13) rfl ?_); refine box_event ?hg (N := 13) ?hd (cs := #[.string (⟨#[]⟩ : ByteArray), .string (⟨#[]⟩ : ByteArray)]) (t := 40) ?hr ?_; (case hd => rfl); (case hg => rfl); (case hr => first | (go_simp; done) | (go_simp; rfl)); intro gb417 hg w115 hbox hb; have n0_ := Aside0.mk (Kd.R_below (kr_ HO_410006.out) hb); have n1_ := Aside0.mk (Kd.R_below (Kd.R_elderB (kr_ HO_410007.out) gb417 (Nat.le_of_eq hg.symm)) hb); have n2_ := Aside0.mk (blk_below (kb_ BK404.out) hb); have n3_ := Aside0.mk (blk_below (kb_ BK405.out) hb); have n4_ := Aside0.mk (blk_below (kb_ BK406.out) hb); have n5_ := Aside0.mk (blk_below (kb_ BK407.out) hb); have n6_ := Aside0.mk (blk_below (kb_ BK409.out) hb); have n7_ := Aside0.mk (below_step (by repeat (first | (with_reducible first | exact HB.out | apply below_alloc | apply pw_below_drewN | apply below_drew1 | refine below_set ?_ GE404.out | refine below_set ?_ GE405.out | refine below_set ?_ GE406.out | refine below_set ?_ GE407.out | refine below_set ?_ GE409.out) | exact HB.out)) hb); have n8_ := Aside0.mk (hbox); have n9_ := Aside0.mk ((by rw [hg]; exact (below_size (by repeat (first | (with_reducible first | exact HB.out | apply below_alloc | apply pw_below_drewN | apply below_drew1 | refine below_set ?_ GE404.out | refine below_set ?_ GE405.out | refine below_set ?_ GE406.out | refine below_set ?_ GE407.out | refine below_set ?_ GE409.out) | exact HB.out))) : w.heap.size ≤ gb417)); have n10_ := Aside0.mk ((by rw [hg]; exact (below_size (by repeat (first | (with_reducible first | exact HB.out | apply below_alloc | apply pw_below_drewN | apply below_drew1 | refine below_set ?_ GE404.out | refine below_set ?_ GE405.out | refine below_set ?_ GE406.out | refine below_set ?_ GE407.out | refine below_set ?_ GE409.out) | exact HB.out))) : w.heap.size ≤ gb417)); have n11_ := Aside0.mk ((by rw [hg]; exact Nat.ne_of_lt (blk_lt (kb_ BK404.out)) : gb404 ≠ gb417)); have n12_ := Aside0.mk ((by rw [hg]; exact Nat.ne_of_gt (blk_lt (kb_ BK404.out)) : gb417 ≠ gb404)); have n13_ := Aside0.mk ((by rw [hg]; exact Nat.ne_of_lt (blk_lt (kb_ BK405.out)) : gb405 ≠ gb417)); have n14_ := Aside0.mk ((by rw [hg]; exact Nat.ne_of_gt (blk_lt (kb_ BK405.out)) : gb417 ≠ gb405)); have n15_ := Aside0.mk ((by rw [hg]; exact Nat.ne_of_lt (blk_lt (kb_ BK406.out)) : gb406 ≠ gb417)); have n16_ := Aside0.mk ((by rw [hg]; exact Nat.ne_of_gt (blk_lt (kb_ BK406.out)) : gb417 ≠ gb406)); have n17_ := Aside0.mk ((by rw [hg]; exact Nat.ne_of_lt (blk_lt (kb_ BK407.out)) : gb407 ≠ gb417)); have n18_ := Aside0.mk ((by rw [hg]; exact Nat.ne_of_gt (blk_lt (kb_ BK407.out)) : gb417 ≠ gb407)); have n19_ := Aside0.mk ((by rw [hg]; exact Nat.ne_of_lt (blk_lt (kb_ BK409.out)) : gb409 ≠ gb417)); have n20_ := Aside0.mk ((by rw [hg]; exact Nat.ne_of_gt (blk_lt (kb_ BK409.out)) : gb417 ≠ gb409)); clear HO_410006; clear HO_410007; clear BK404; clear BK405; clear BK406; clear BK407; clear BK409; clear HB; have HO_410006 := n0_; have HO_410007 := n1_; have BK404 := n2_; have BK405 := n3_; have BK406 := n4_; have BK407 := n5_; have BK409 := n6_; have HB := n7_; have BK417 := n8_; have GW417 := n9_; have GE417 := n10_; have NB404_417 := n11_; have NB417_404 := n12_; have NB405_417 := n13_; have NB417_405 := n14_; have NB406_417 := n15_; have NB417_406 := n16_; have NB407_417 := n17_; have NB417_407 := n18_; have NB409_417 := n19_; have NB417_409 := n20_; clear n0_ n1_ n2_ n3_ n4_ n5_ n6_ n7_ n8_ n9_ n10_ n11_ n12_ n13_ n14_ n15_ n16_ n17_ n18_ n19_ n20_; clear hb hbox hg; have hnb116 := NB417_404.out; have hnc116 := NB404_417.out; have hnb117 := NB417_405.out; have hnc117 := NB405_417.out; have hnb118 := NB417_406.out; have hnc118 := NB406_417.out; have hnb119 := NB417_407.out; have hnc119 := NB407_417.out; have hnb120 := NB417_409.out; have hnc120 := NB409_417.out; refine blk2_ BK417.out fun hcz121_0 hcz121_1 hfz121_0 hfz121_1 => ?_) | (go_at_call 34; (with_reducible refine (command_Part_1.calls ((rd_T40 l0_7 x56_3).f0) a2 a1 false _ ?side1 ?side2 A95.out).mono ?_); (case side1 => refine CapC.mk (show _ = some (Obj.cells #[.int .i64 a2] 3 (0, 0)) from ?_) rfl; (with_reducible repeat (first | refine blk_drewN ?_ _ | refine blk_drew ?_ | refine blk_alloc ?_ _)); refine blk_far ?_ NB406_417.out _; (with_reducible repeat (first | refine blk_drewN ?_ _ | refine blk_drew ?_ | refine blk_alloc ?_ _)); refine blk_far ?_ NB406_417.out _; (with_reducible repeat (first | refine blk_drewN ?_ _ | refine blk_drew ?_ | refine blk_alloc ?_ _)); exact BK406.out); (case side2 => refine CapC.mk (show _ = some (Obj.cells #[.int .i64 a1] 3 (0, 0)) from ?_) rfl; (with_reducible repeat (first | refine blk_drewN ?_ _ | refine blk_drew ?_ | refine blk_alloc ?_ _)); refine blk_far ?_ NB405_417.out _; (with_reducible repeat (first | refine blk_drewN ?_ _ | refine blk_drew ?_ | refine blk_alloc ?_ _)); refine blk_far ?_ NB405_417.out _; (with_reducible repeat (first | refine blk_drewN ?_ _ | refine blk_drew ?_ | refine blk_alloc ?_ _)); exact BK405.out); rintro e w122 ⟨rfl, hb⟩; have n0_ := Aside0.mk (Kd.R_below (by (with_reducible repeat (first | apply Kd.R_alloc | apply Kd.R_drewN | apply Kd.R_drew)); exact (Kd.R_mono (Kd.R_far (p := ⟨gb417, 1, none⟩) (Kd.R_far (p := ⟨gb417, 0, none⟩) (Kd.R_types HO_410006.out BK417.out (by decide)) (fun _ hk => hk.2) (.string ((rd_T40 l0_7 x56_3).f0))) (fun _ hk => hk.2) (.string ((rd_T40 l0_7 x56_3).f1))) (fun _ h_ => h_.1))) hb); have n1_ := Aside0.mk (Kd.R_below (by (with_reducible repeat (first | apply Kd.R_alloc | apply Kd.R_drewN | apply Kd.R_drew)); exact (Kd.R_mono (Kd.R_far (p := ⟨gb417, 1, none⟩) (Kd.R_far (p := ⟨gb417, 0, none⟩) (Kd.R_mono HO_410007.out (fun k_ hk => (⟨hk, hk.2⟩ : _ ∧ k_ ≠ gb417))) (fun _ hk => hk.2) (.string ((rd_T40 l0_7 x56_3).f0))) (fun _ hk => hk.2) (.string ((rd_T40 l0_7 x56_3).f1))) (fun _ h_ => h_.1))) hb); have n2_ := Aside0.mk (blk_below (g := gb404) (o := .cells #[.int .i64 a0_0, .int .i64 a0_1, .int .i64 a0_2, .int .i64 a0_3, .int .i64 a0_4, .int .i64 a0_5, .slice A0_6 l0_6.length c0_6, .slice (some ad416) l0_7.length c0_7, .bool a0_8] 29 (0, 0)) (by (with_reducible repeat (first | refine blk_drewN ?_ _ | refine blk_drew ?_ | refine blk_alloc ?_ _)); refine blk_far ?_ NB404_417.out _; (with_reducible repeat (first | refine blk_drewN ?_ _ | refine blk_drew ?_ | refine blk_alloc ?_ _)); refine blk_far ?_ NB404_417.out _; (with_reducible repeat (first | refine blk_drewN ?_ _ | refine blk_drew ?_ | refine blk_alloc ?_ _)); exact BK404.out) hb); have n3_ := Aside0.mk (blk_below (g := gb405) (o := .cells #[.int .i64 a1] 3 (0, 0)) (by (with_reducible repeat (first | refine blk_drewN ?_ _ | refine blk_drew ?_ | refine blk_alloc ?_ _)); refine blk_far ?_ NB405_417.out _; (with_reducible repeat (first | refine blk_drewN ?_ _ | refine blk_drew ?_ | refine blk_alloc ?_ _)); refine blk_far ?_ NB405_417.out _; (with_reducible repeat (first | refine blk_drewN ?_ _ | refine blk_drew ?_ | refine blk_alloc ?_ _)); exact BK405.out) hb); have n4_ := Aside0.mk (blk_below (g := gb406) (o := .cells #[.int .i64 a2] 3 (0, 0)) (by (with_reducible repeat (first | refine blk_drewN ?_ _ | refine blk_drew ?_ | refine blk_alloc ?_ _)); refine blk_far ?_ NB406_417.out _; (with_reducible repeat (first | refine blk_drewN ?_ _ | refine blk_drew ?_ | refine blk_alloc ?_ _)); refine blk_far ?_ NB406_417.out _; (with_reducible repeat (first | refine blk_drewN ?_ _ | refine blk_drew ?_ | refine blk_alloc ?_ _)); exact BK406.out) hb); have n5_ := Aside0.mk (blk_below (g := gb407) (o := .cells #[.int .i64 0, .int .i64 0, .int .i64 0, .int .i64 0, .int .i64 0, .int .i64 0, .slice none 0 0, .slice none 0 0, .bool false] 29 (0, 0)) (by (with_reducible repeat (first | refine blk_drewN ?_ _ | refine blk_drew ?_ | refine blk_alloc ?_ _)); refine blk_far ?_ NB407_417.out _; (with_reducible repeat (first | refine blk_drewN ?_ _ | refine blk_drew ?_ | refine blk_alloc ?_ _)); refine blk_far ?_ NB407_417.out _; (with_reducible repeat (first | refine blk_drewN ?_ _ | refine blk_drew ?_ | refine blk_alloc ?_ _)); exact BK407.out) hb); have n6_ := Aside0.mk (blk_below (g := gb409) (o := .cells #[.int .i64 a0_0, .int .i64 a0_1, .int .i64 a0_2, .int .i64 a0_3, .int .i64 a0_4, .int .i64 a0_5, u410006, u410007, .bool a0_8] 29 (0, 0)) (by (with_reducible repeat (first | refine blk_drewN ?_ _ | refine blk_drew ?_ | refine blk_alloc ?_ _)); refine blk_far ?_ NB409_417.out _; (with_reducible repeat (first | refine blk_drewN ?_ _ | refine blk_drew ?_ | refine blk_alloc ?_ _)); refine blk_far ?_ NB409_417.out _; (with_reducible repeat (first | refine blk_drewN ?_ _ | refine blk_drew ?_ | refine blk_alloc ?_ _)); exact BK409.out) hb); have n7_ := Aside0.mk (blk_below (g := gb417) (o := .cells #[.string ((rd_T40 l0_7 x56_3).f0), .string ((rd_T40 l0_7 x56_3).f1)] 40 (0, 0)) (by (with_reducible repeat (first | refine blk_drewN ?_ _ | refine blk_drew ?_ | refine blk_alloc ?_ _)); refine blk_put (cs := #[.string ((rd_T40 l0_7 x56_3).f0), .string (⟨#[]⟩ : ByteArray)]) ?_ 1 _ rfl; (with_reducible repeat (first | refine blk_drewN ?_ _ | refine blk_drew ?_ | refine blk_alloc ?_ _)); refine blk_put (cs := #[.string (⟨#[]⟩ : ByteArray), .string (⟨#[]⟩ : ByteArray)]) ?_ 0 _ rfl; (with_reducible repeat (first | refine blk_drewN ?_ _ | refine blk_drew ?_ | refine blk_alloc ?_ _)); exact BK417.out) hb); have n8_ := Aside0.mk (below_step (by repeat (first | (with_reducible first | exact HB.out | apply below_alloc | apply pw_below_drewN | apply below_drew1 | refine below_set ?_ GE404.out | refine below_set ?_ GE405.out | refine below_set ?_ GE406.out | refine below_set ?_ GE407.out | refine below_set ?_ GE409.out | refine below_set ?_ GE417.out) | exact HB.out)) hb); clear HO_410006; clear HO_410007; clear BK404; clear BK405; clear BK406; clear BK407; clear BK409; clear BK417; clear HB; have HO_410006 := n0_; have HO_410007 := n1_; have BK404 := n2_; have BK405 := n3_; have BK406 := n4_; have BK407 := n5_; have BK409 := n6_; have BK417 := n7_; have HB := n8_; clear n0_ n1_ n2_ n3_ n4_ n5_ n6_ n7_ n8_; (try clear hb); (try clear hb2); (try clear hk); (try clear hi)))
                   go_roundg k3
                   case measure => have := HJ3.out; have := HK2.out; have := HK3.out; omega
                   case rel => exact ⟨(wrap64 (x56_3 + 1)), (x410007_3), (u410007), (by first | rfl | (simp; done) | (simp [*]; done)), H', ⟨by have := HJ3.out; have := HK2.out; have := HK3.out; omega⟩, ⟨by (with_reducible repeat (first | apply Kd.R_alloc | apply Kd.R_drewN | apply Kd.R_drew)); exact HO_410006.out⟩, ⟨by (with_reducible repeat (first | apply Kd.R_alloc | apply Kd.R_drewN | apply Kd.R_drew)); exact Kd.R_mono HO_410007.out (fun _ hk => trivial)⟩, ⟨by (with_reducible repeat (first | refine blk_drewN ?_ _ | refine blk_drew ?_ | refine blk_alloc ?_ _)); exact BK404.out⟩, ⟨by (with_reducible repeat (first | refine blk_drewN ?_ _ | refine blk_drew ?_ | refine blk_alloc ?_ _)); exact BK405.out⟩, ⟨by (with_reducible repeat (first | refine blk_drewN ?_ _ | refine blk_drew ?_ | refine blk_alloc ?_ _)); exact BK406.out⟩, ⟨by (with_reducible repeat (first | refine blk_drewN ?_ _ | refine blk_drew ?_ | refine blk_alloc ?_ _)); exact BK407.out⟩, ⟨by (with_reducible repeat (first | refine blk_drewN ?_ _ | refine blk_drew ?_ | refine blk_alloc ?_ _)); exact BK409.out⟩, ⟨by repeat (first | (with_reducible first | exact HB.out | apply below_alloc | apply pw_below_drewN | apply below_drew1 | refine below_set ?_ GE404.out | refine below_set ?_ GE405.out | refine below_set ?_ GE406.out | refine below_set ?_ GE407.out | refine below_set ?_ GE409.out | refine below_set ?_ GE417.out) | exact HB.out)⟩⟩
               · rw [if_neg c94] at H
                 exact absurd H (by simp)
             · rw [if_neg c93] at H
               exact absurd H (by simp)
           · rw [if_neg c92] at H
             have c92b0 : decide (x56_3 < (l0_7.length : Int)) = false := decide_eq_false c92
             clear c92
             by_cases c123 : (wrap64 ((x410006_2.length : Int) + (x410007_3.length : Int))) = 0
             · rw [if_pos c123] at H
               have c123b0 : ((wrap64 ((x410006_2.length : Int) + (x410007_3.length : Int))) == 0) = true := beq_iff_eq.mpr c123
               have c123b1 : ((wrap64 ((x410006_2.length : Int) + (x410007_3.length : Int))) != 0) = false := bne_eq_false_iff_eq.mpr c123
               clear c123
               simp only [Option.some.injEq, Prod.mk.injEq] at H
               obtain ⟨rfl, rfl, rfl, rfl, rfl, rfl, rfl, rfl, rfl, rfl⟩ := H
               have hnb124 := NB409_404.out
               have hnc124 := NB404_409.out
               have hnb125 := NB409_405.out
               have hnc125 := NB405_409.out
               have hnb126 := NB409_406.out
               have hnc126 := NB406_409.out
               have hnb127 := NB409_407.out
               have hnc127 := NB407_409.out
               refine blk9_ BK409.out fun hcz128_0 hcz128_1 hcz128_2 hcz128_3 hcz128_4 hcz128_5 hcz128_6 hcz128_7 hcz128_8 hfz128_0 hfz128_1 hfz128_2 hfz128_3 hfz128_4 hfz128_5 hfz128_6 hfz128_7 hfz128_8 => ?_
               obtain ⟨Ao129, co129, eo129⟩ := Kd.R_slice HO_410006.out
               subst eo129
               obtain ⟨Ao130, co130, eo130⟩ := Kd.R_slice HO_410007.out
               subst eo130
               have hnb131 := NB407_404.out
               have hnc131 := NB404_407.out
               have hnb132 := NB407_405.out
               have hnc132 := NB405_407.out
               have hnb133 := NB407_406.out
               have hnc133 := NB406_407.out
               refine blk9_ BK407.out fun hcz134_0 hcz134_1 hcz134_2 hcz134_3 hcz134_4 hcz134_5 hcz134_6 hcz134_7 hcz134_8 hfz134_0 hfz134_1 hfz134_2 hfz134_3 hfz134_4 hfz134_5 hfz134_6 hfz134_7 hfz134_8 => ?_
               go_wp2_with (first | ((with_reducible refine gate_store (t := 29) (p := 6) rfl ?_); refine store_event (t := 29) (p := 6) (v := ?vo_w135) (w1 := (((((((((wr.setCell ⟨gb407, 0, none⟩ (.int .i64 0)).setCell ⟨gb407, 1, none⟩ (.int .i64 0)).setCell ⟨gb407, 2, none⟩ (.int .i64 0)).setCell ⟨gb407, 3, none⟩ (.int .i64 0)).setCell ⟨gb407, 4, none⟩ (.int .i64 0)).setCell ⟨gb407, 5, none⟩ (.int .i64 0)).setCell ⟨gb407, 6, none⟩ (.slice none 0 0)).setCell ⟨gb407, 7, none⟩ (.slice none 0 0)).setCell ⟨gb407, 8, none⟩ (.bool false))) ?hg ?ho ?hn ?hr ?_; (case ho => rfl); (case hg => rfl); (case hn => rfl); (case hr => first | (go_simp; done) | (go_simp; rfl)); intro w135 hw; have n0_ : Aside0 (Kd.R k38 38 w135 w.heap.size (fun _ => True) (.slice Ao129 x410006_2.length co129) x410006_2) := ⟨(by rw [hw]; exact (by (with_reducible repeat (first | apply Kd.R_alloc | apply Kd.R_drewN | apply Kd.R_drew)); exact Kd.R_mono (Kd.R_far (p := ⟨gb407, 8, none⟩) (Kd.R_far (p := ⟨gb407, 7, none⟩) (Kd.R_far (p := ⟨gb407, 6, none⟩) (Kd.R_far (p := ⟨gb407, 5, none⟩) (Kd.R_far (p := ⟨gb407, 4, none⟩) (Kd.R_far (p := ⟨gb407, 3, none⟩) (Kd.R_far (p := ⟨gb407, 2, none⟩) (Kd.R_far (p := ⟨gb407, 1, none⟩) (Kd.R_far (p := ⟨gb407, 0, none⟩) (Kd.R_types HO_410006.out BK407.out (by decide)) (fun _ hk => hk.2) (.int .i64 0)) (fun _ hk => hk.2) (.int .i64 0)) (fun _ hk => hk.2) (.int .i64 0)) (fun _ hk => hk.2) (.int .i64 0)) (fun _ hk => hk.2) (.int .i64 0)) (fun _ hk => hk.2) (.int .i64 0)) (fun _ hk => hk.2) (.slice none 0 0)) (fun _ hk => hk.2) (.slice none 0 0)) (fun _ hk => hk.2) (.bool false)) (fun _ hk => trivial)))⟩; have n1_ : Aside0 (Kd.R k40 40 w135 w.heap.size (fun _ => True) (.slice Ao130 x410007_3.length co130) x410007_3) := ⟨(by rw [hw]; exact (by (with_reducible repeat (first | apply Kd.R_alloc | apply Kd.R_drewN | apply Kd.R_drew)); exact Kd.R_mono (Kd.R_far (p := ⟨gb407, 8, none⟩) (Kd.R_far (p := ⟨gb407, 7, none⟩) (Kd.R_far (p := ⟨gb407, 6, none⟩) (Kd.R_far (p := ⟨gb407, 5, none⟩) (Kd.R_far (p := ⟨gb407, 4, none⟩) (Kd.R_far (p := ⟨gb407, 3, none⟩) (Kd.R_far (p := ⟨gb407, 2, none⟩) (Kd.R_far (p := ⟨gb407, 1, none⟩) (Kd.R_far (p := ⟨gb407, 0, none⟩) (Kd.R_types HO_410007.out BK407.out (by decide)) (fun _ hk => hk.2) (.int .i64 0)) (fun _ hk => hk.2) (.int .i64 0)) (fun _ hk => hk.2) (.int .i64 0)) (fun _ hk => hk.2) (.int .i64 0)) (fun _ hk => hk.2) (.int .i64 0)) (fun _ hk => hk.2) (.int .i64 0)) (fun _ hk => hk.2) (.slice none 0 0)) (fun _ hk => hk.2) (.slice none 0 0)) (fun _ hk => hk.2) (.bool false)) (fun _ hk => trivial)))⟩; have n2_ : Aside0 (w135.heap[gb404]? = some (.cells #[.int .i64 a0_0, .int .i64 a0_1, .int .i64 a0_2, .int .i64 a0_3, .int .i64 a0_4, .int .i64 a0_5, .slice A0_6 l0_6.length c0_6, .slice A0_7 l0_7.length c0_7, .bool a0_8] 29 (0, 0))) := ⟨(by rw [hw]; exact (by (with_reducible repeat (first | refine blk_drewN ?_ _ | refine blk_drew ?_ | refine blk_alloc ?_ _)); refine blk_far ?_ NB404_407.out _; (with_reducible repeat (first | refine blk_drewN ?_ _ | refine blk_drew ?_ | refine blk_alloc ?_ _)); refine blk_far ?_ NB404_407.out _; (with_reducible repeat (first | refine blk_drewN ?_ _ | refine blk_drew ?_ | refine blk_alloc ?_ _)); refine blk_far ?_ NB404_407.out _; (with_reducible repeat (first | refine blk_drewN ?_ _ | refine blk_drew ?_ | refine blk_alloc ?_ _)); refine blk_far ?_ NB404_407.out _; (with_reducible repeat (first | refine blk_drewN ?_ _ | refine blk_drew ?_ | refine blk_alloc ?_ _)); refine blk_far ?_ NB404_407.out _; (with_reducible repeat (first | refine blk_drewN ?_ _ | refine blk_drew ?_ | refine blk_alloc ?_ _)); refine blk_far ?_ NB404_407.out _; (with_reducible repeat (first | refine blk_drewN ?_ _ | refine blk_drew ?_ | refine blk_alloc ?_ _)); refine blk_far ?_ NB404_407.out _; (with_reducible repeat (first | refine blk_drewN ?_ _ | refine blk_drew ?_ | refine blk_alloc ?_ _)); refine blk_far ?_ NB404_407.out _; (with_reducible repeat (first | refine blk_drewN ?_ _ | refine blk_drew ?_ | refine blk_alloc ?_ _)); refine blk_far ?_ NB404_407.out _; (with_reducible repeat (first | refine blk_drewN ?_ _ | refine blk_drew ?_ | refine blk_alloc ?_ _)); exact BK404.out))⟩; have n3_ : Aside0 (w135.heap[gb405]? = some (.cells #[.int .i64 a1] 3 (0, 0))) := ⟨(by rw [hw]; exact (by (with_reducible repeat (first | refine blk_drewN ?_ _ | refine blk_drew ?_ | refine blk_alloc ?_ _)); refine blk_far ?_ NB405_407.out _; (with_reducible repeat (first | refine blk_drewN ?_ _ | refine blk_drew ?_ | refine blk_alloc ?_ _)); refine blk_far ?_ NB405_407.out _; (with_reducible repeat (first | refine blk_drewN ?_ _ | refine blk_drew ?_ | refine blk_alloc ?_ _)); refine blk_far ?_ NB405_407.out _; (with_reducible repeat (first | refine blk_drewN ?_ _ | refine blk_drew ?_ | refine blk_alloc ?_ _)); refine blk_far ?_ NB405_407.out _; (with_reducible repeat (first | refine blk_drewN ?_ _ | refine blk_drew ?_ | refine blk_alloc ?_ _)); refine blk_far ?_ NB405_407.out _; (with_reducible repeat (first | refine blk_drewN ?_ _ | refine blk_drew ?_ | refine blk_alloc ?_ _)); refine blk_far ?_ NB405_407.out _; (with_reducible repeat (first | refine blk_drewN ?_ _ | refine blk_drew ?_ | refine blk_alloc ?_ _)); refine blk_far ?_ NB405_407.out _; (with_reducible repeat (first | refine blk_drewN ?_ _ | refine blk_drew ?_ | refine blk_alloc ?_ _)); refine blk_far ?_ NB405_407.out _; (with_reducible repeat (first | refine blk_drewN ?_ _ | refine blk_drew ?_ | refine blk_alloc ?_ _)); refine blk_far ?_ NB405_407.out _; (with_reducible repeat (first | refine blk_drewN ?_ _ | refine blk_drew ?_ | refine blk_alloc ?_ _)); exact BK405.out))⟩; have n4_ : Aside0 (w135.heap[gb406]? = some (.cells #[.int .i64 a2] 3 (0, 0))) := ⟨(by rw [hw]; exact (by (with_reducible repeat (first | refine blk_drewN ?_ _ | refine blk_drew ?_ | refine blk_alloc ?_ _)); refine blk_far ?_ NB406_407.out _; (with_reducible repeat (first | refine blk_drewN ?_ _ | refine blk_drew ?_ | refine blk_alloc ?_ _)); refine blk_far ?_ NB406_407.out _; (with_reducible repeat (first | refine blk_drewN ?_ _ | refine blk_drew ?_ | refine blk_alloc ?_ _)); refine blk_far ?_ NB406_407.out _; (with_reducible repeat (first | refine blk_drewN ?_ _ | refine blk_drew ?_ | refine blk_alloc ?_ _)); refine blk_far ?_ NB406_407.out _; (with_reducible repeat (first | refine blk_drewN ?_ _ | refine blk_drew ?_ | refine blk_alloc ?_ _)); refine blk_far ?_ NB406_407.out _; (with_reducible repeat (first | refine blk_drewN ?_ _ | refine blk_drew ?_ | refine blk_alloc ?_ _)); refine blk_far ?_ NB406_407.out _; (with_reducible repeat (first | refine blk_drewN ?_ _ | refine blk_drew ?_ | refine blk_alloc ?_ _)); refine blk_far ?_ NB406_407.out _; (with_reducible repeat (first | refine blk_drewN ?_ _ | refine blk_drew ?_ | refine blk_alloc ?_ _)); refine blk_far ?_ NB406_407.out _; (with_reducible repeat (first | refine blk_drewN ?_ _ | refine blk_drew ?_ | refine blk_alloc ?_ _)); refine blk_far ?_ NB406_407.out _; (with_reducible repeat (first | refine blk_drewN ?_ _ | refine blk_drew ?_ | refine blk_alloc ?_ _)); exact BK406.out))⟩; have n5_ : Aside0 (w135.heap[gb407]? = some (.cells #[.int .i64 0, .int .i64 0, .int .i64 0, .int .i64 0, .int .i64 0, .int .i64 0, .slice none 0 0, .slice none 0 0, .bool false] 29 (0, 0))) := ⟨(by rw [hw]; exact (by (with_reducible repeat (first | refine blk_drewN ?_ _ | refine blk_drew ?_ | refine blk_alloc ?_ _)); refine blk_put (cs := #[.int .i64 0, .int .i64 0, .int .i64 0, .int .i64 0, .int .i64 0, .int .i64 0, .slice none 0 0, .slice none 0 0, .bool false]) ?_ 8 _ rfl; (with_reducible repeat (first | refine blk_drewN ?_ _ | refine blk_drew ?_ | refine blk_alloc ?_ _)); refine blk_put (cs := #[.int .i64 0, .int .i64 0, .int .i64 0, .int .i64 0, .int .i64 0, .int .i64 0, .slice none 0 0, .slice none 0 0, .bool false]) ?_ 7 _ rfl; (with_reducible repeat (first | refine blk_drewN ?_ _ | refine blk_drew ?_ | refine blk_alloc ?_ _)); refine blk_put (cs := #[.int .i64 0, .int .i64 0, .int .i64 0, .int .i64 0, .int .i64 0, .int .i64 0, .slice none 0 0, .slice none 0 0, .bool false]) ?_ 6 _ rfl; (with_reducible repeat (first | refine blk_drewN ?_ _ | refine blk_drew ?_ | refine blk_alloc ?_ _)); refine blk_put (cs := #[.int .i64 0, .int .i64 0, .int .i64 0, .int .i64 0, .int .i64 0, .int .i64 0, .slice none 0 0, .slice none 0 0, .bool false]) ?_ 5 _ rfl; (with_reducible repeat (first | refine blk_drewN ?_ _ | refine blk_drew ?_ | refine blk_alloc ?_ _)); refine blk_put (cs := #[.int .i64 0, .int .i64 0, .int .i64 0, .int .i64 0, .int .i64 0, .int .i64 0, .slice none 0 0, .slice none 0 0, .bool false]) ?_ 4 _ rfl; (with_reducible repeat (first | refine blk_drewN ?_ _ | refine blk_drew ?_ | refine blk_alloc ?_ _)); refine blk_put (cs := #[.int .i64 0, .int .i64 0, .int .i64 0, .int .i64 0, .int .i64 0, .int .i64 0, .slice none 0 0, .slice none 0 0, .bool false]) ?_ 3 _ rfl; (with_reducible repeat (first | refine blk_drewN ?_ _ | refine blk_drew ?_ | refine blk_alloc ?_ _)); refine blk_put (cs := #[.int .i64 0, .int .i64 0, .int .i64 0, .int .i64 0, .int .i64 0, .int .i64 0, .slice none 0 0, .slice none 0 0, .bool false]) ?_ 2 _ rfl; (with_reducible repeat (first | refine blk_drewN ?_ _ | refine blk_drew ?_ | refine blk_alloc ?_ _)); refine blk_put (cs := #[.int .i64 0, .int .i64 0, .int .i64 0, .int .i64 0, .int .i64 0, .int .i64 0, .slice none 0 0, .slice none 0 0, .bool false]) ?_ 1 _ rfl; (with_reducible repeat (first | refine blk_drewN ?_ _ | refine blk_drew ?_ | refine blk_alloc ?_ _)); refine blk_put (cs := #[.int .i64 0, .int .i64 0, .int .i64 0, .int .i64 0, .int .i64 0, .int .i64 0, .slice none 0 0, .slice none 0 0, .bool false]) ?_ 0 _ rfl; (with_reducible repeat (first | refine blk_drewN ?_ _ | refine blk_drew ?_ | refine blk_alloc ?_ _)); exact BK407.out))⟩; have n6_ : Aside0 (w135.heap[gb409]? = some (.cells #[.int .i64 a0_0, .int .i64 a0_1, .int .i64 a0_2, .int .i64 a0_3, .int .i64 a0_4, .int .i64 a0_5, .slice Ao129 x410006_2.length co129, .slice Ao130 x410007_3.length co130, .bool a0_8] 29 (0, 0))) := ⟨(by rw [hw]; exact (by (with_reducible repeat (first | refine blk_drewN ?_ _ | refine blk_drew ?_ | refine blk_alloc ?_ _)); refine blk_far ?_ NB409_407.out _; (with_reducible repeat (first | refine blk_drewN ?_ _ | refine blk_drew ?_ | refine blk_alloc ?_ _)); refine blk_far ?_ NB409_407.out _; (with_reducible repeat (first | refine blk_drewN ?_ _ | refine blk_drew ?_ | refine blk_alloc ?_ _)); refine blk_far ?_ NB409_407.out _; (with_reducible repeat (first | refine blk_drewN ?_ _ | refine blk_drew ?_ | refine blk_alloc ?_ _)); refine blk_far ?_ NB409_407.out _; (with_reducible repeat (first | refine blk_drewN ?_ _ | refine blk_drew ?_ | refine blk_alloc ?_ _)); refine blk_far ?_ NB409_407.out _; (with_reducible repeat (first | refine blk_drewN ?_ _ | refine blk_drew ?_ | refine blk_alloc ?_ _)); refine blk_far ?_ NB409_407.out _; (with_reducible repeat (first | refine blk_drewN ?_ _ | refine blk_drew ?_ | refine blk_alloc ?_ _)); refine blk_far ?_ NB409_407.out _; (with_reducible repeat (first | refine blk_drewN ?_ _ | refine blk_drew ?_ | refine blk_alloc ?_ _)); refine blk_far ?_ NB409_407.out _; (with_reducible repeat (first | refine blk_drewN ?_ _ | refine blk_drew ?_ | refine blk_alloc ?_ _)); refine blk_far ?_ NB409_407.out _; (with_reducible repeat (first | refine blk_drewN ?_ _ | refine blk_drew ?_ | refine blk_alloc ?_ _)); exact BK409.out))⟩; have n7_ : Aside0 (Below w.heap.size w w135) := ⟨(by rw [hw]; exact (by repeat (first | (with_reducible first | exact HB.out | apply below_alloc | apply pw_below_drewN | apply below_drew1 | refine below_set ?_ GE404.out | refine below_set ?_ GE405.out | refine below_set ?_ GE406.out | refine below_set ?_ GE407.out | refine below_set ?_ GE409.out) | exact HB.out)))⟩; clear hw; clear HO_410006; clear HO_410007; clear BK404; clear BK405; clear BK406; clear BK407; clear BK409; clear HB; have HO_410006 := n0_; have HO_410007 := n1_; have BK404 := n2_; have BK405 := n3_; have BK406 := n4_; have BK407 := n5_; have BK409 := n6_; have HB := n7_; clear n0_ n1_ n2_ n3_ n4_ n5_ n6_ n7_))
               refine bodyPost_ret (results_ct rfl _ _ gb407 29 #[.int .i64 0, .int .i64 0, .int .i64 0, .int .i64 0, .int .i64 0, .int .i64 0, .slice none 0 0, .slice none 0 0, .bool false] (0, 0) _ rfl (kb_ BK407.out) Try.underlying29 rfl (by kernel_rfl)) rfl ?_
               exact ⟨_, _, by first | rfl | (simp [errW_none, errW_some] <;> rfl) | (simp [*, errW_none, errW_some] <;> rfl), by first | exact Kd.R_nil _ _ _ _ _ | exact Kd.N_nil _ _ _ _ _ | exact Kd.V_nil _ _ _ _ _ | exact Kd.Q_nil _ _ _ _ _ | exact Kd.S_nil _ _ _ _ _, by first | exact Kd.R_nil _ _ _ _ _ | exact Kd.N_nil _ _ _ _ _ | exact Kd.V_nil _ _ _ _ _ | exact Kd.Q_nil _ _ _ _ _ | exact Kd.S_nil _ _ _ _ _, by repeat (first | (with_reducible first | exact HB.out | apply below_alloc | apply pw_below_drewN | apply below_drew1 | refine below_set ?_ GE404.out | refine below_set ?_ GE405.out | refine below_set ?_ GE406.out | refine below_set ?_ GE407.out | refine below_set ?_ GE409.out) | exact HB.out)⟩
             · rw [if_neg c123] at H
               have c123b0 : ((wrap64 ((x410006_2.length : Int) + (x410007_3.length : Int))) == 0) = false := beq_eq_false_iff_ne.mpr c123
               have c123b1 : ((wrap64 ((x410006_2.length : Int) + (x410007_3.length : Int))) != 0) = true := bne_iff_ne.mpr c123
               simp only [Option.some.injEq, Prod.mk.injEq] at H
               obtain ⟨rfl, rfl, rfl, rfl, rfl, rfl, rfl, rfl, rfl, rfl⟩ := H
               have hnb136 := NB409_404.out
               have hnc136 := NB404_409.out
               have hnb137 := NB409_405.out
               have hnc137 := NB405_409.out
               have hnb138 := NB409_406.out
               have hnc138 := NB406_409.out
               have hnb139 := NB409_407.out
               have hnc139 := NB407_409.out
               refine blk9_ BK409.out fun hcz140_0 hcz140_1 hcz140_2 hcz140_3 hcz140_4 hcz140_5 hcz140_6 hcz140_7 hcz140_8 hfz140_0 hfz140_1 hfz140_2 hfz140_3 hfz140_4 hfz140_5 hfz140_6 hfz140_7 hfz140_8 => ?_
               obtain ⟨Ao141, co141, eo141⟩ := Kd.R_slice HO_410006.out
               subst eo141
               obtain ⟨Ao142, co142, eo142⟩ := Kd.R_slice HO_410007.out
               subst eo142
               have hnb144 := NB407_404.out
               have hnc144 := NB404_407.out
               have hnb145 := NB407_405.out
               have hnc145 := NB405_407.out
               have hnb146 := NB407_406.out
               have hnc146 := NB406_407.out
               refine blk9_ BK407.out fun hcz147_0 hcz147_1 hcz147_2 hcz147_3 hcz147_4 hcz147_5 hcz147_6 hcz147_7 hcz147_8 hfz147_0 hfz147_1 hfz147_2 hfz147_3 hfz147_4 hfz147_5 hfz147_6 hfz147_7 hfz147_8 => ?_
               go_wp2_with (first | ((with_reducible refine gate_dst (N := 80) rfl ?_); refine blk_load_event ?lg (N := 80) ?ld (t := 29) (x := ?lxxz143) ?lo (g := gb409) ?lx (cs := _) BK409.out ?lD ?lt ?_; (case lg => rfl); (case ld => rfl); (case lo => rfl); (case lx => first | rfl | (go_simp; done) | (go_simp; rfl)); (case lD => exact ⟨_, Try.underlying29, rfl⟩); (case lt => kernel_rfl)) | ((with_reducible refine gate_store (t := 29) (p := 6) rfl ?_); refine store_event (t := 29) (p := 6) (v := ?vo_w148) (w1 := (((((((((wr.setCell ⟨gb407, 0, none⟩ (.int .i64 a0_0)).setCell ⟨gb407, 1, none⟩ (.int .i64 a0_1)).setCell ⟨gb407, 2, none⟩ (.int .i64 a0_2)).setCell ⟨gb407, 3, none⟩ (.int .i64 a0_3)).setCell ⟨gb407, 4, none⟩ (.int .i64 a0_4)).setCell ⟨gb407, 5, none⟩ (.int .i64 a0_5)).setCell ⟨gb407, 6, none⟩ (.slice Ao141 x410006_2.length co141)).setCell ⟨gb407, 7, none⟩ (.slice Ao142 x410007_3.length co142)).setCell ⟨gb407, 8, none⟩ (.bool a0_8))) ?hg ?ho ?hn ?hr ?_; (case ho => rfl); (case hg => rfl); (case hn => rfl); (case hr => first | (go_simp; done) | (go_simp; rfl)); intro w148 hw; have n0_ : Aside0 (Kd.R k38 38 w148 w.heap.size (fun _ => True) (.slice Ao141 x410006_2.length co141) x410006_2) := ⟨(by rw [hw]; exact (by (with_reducible repeat (first | apply Kd.R_alloc | apply Kd.R_drewN | apply Kd.R_drew)); exact Kd.R_mono (Kd.R_far (p := ⟨gb407, 8, none⟩) (Kd.R_far (p := ⟨gb407, 7, none⟩) (Kd.R_far (p := ⟨gb407, 6, none⟩) (Kd.R_far (p := ⟨gb407, 5, none⟩) (Kd.R_far (p := ⟨gb407, 4, none⟩) (Kd.R_far (p := ⟨gb407, 3, none⟩) (Kd.R_far (p := ⟨gb407, 2, none⟩) (Kd.R_far (p := ⟨gb407, 1, none⟩) (Kd.R_far (p := ⟨gb407, 0, none⟩) (Kd.R_types HO_410006.out BK407.out (by decide)) (fun _ hk => hk.2) (.int .i64 a0_0)) (fun _ hk => hk.2) (.int .i64 a0_1)) (fun _ hk => hk.2) (.int .i64 a0_2)) (fun _ hk => hk.2) (.int .i64 a0_3)) (fun _ hk => hk.2) (.int .i64 a0_4)) (fun _ hk => hk.2) (.int .i64 a0_5)) (fun _ hk => hk.2) (.slice Ao141 x410006_2.length co141)) (fun _ hk => hk.2) (.slice Ao142 x410007_3.length co142)) (fun _ hk => hk.2) (.bool a0_8)) (fun _ hk => trivial)))⟩; have n1_ : Aside0 (Kd.R k40 40 w148 w.heap.size (fun _ => True) (.slice Ao142 x410007_3.length co142) x410007_3) := ⟨(by rw [hw]; exact (by (with_reducible repeat (first | apply Kd.R_alloc | apply Kd.R_drewN | apply Kd.R_drew)); exact Kd.R_mono (Kd.R_far (p := ⟨gb407, 8, none⟩) (Kd.R_far (p := ⟨gb407, 7, none⟩) (Kd.R_far (p := ⟨gb407, 6, none⟩) (Kd.R_far (p := ⟨gb407, 5, none⟩) (Kd.R_far (p := ⟨gb407, 4, none⟩) (Kd.R_far (p := ⟨gb407, 3, none⟩) (Kd.R_far (p := ⟨gb407, 2, none⟩) (Kd.R_far (p := ⟨gb407, 1, none⟩) (Kd.R_far (p := ⟨gb407, 0, none⟩) (Kd.R_types HO_410007.out BK407.out (by decide)) (fun _ hk => hk.2) (.int .i64 a0_0)) (fun _ hk => hk.2) (.int .i64 a0_1)) (fun _ hk => hk.2) (.int .i64 a0_2)) (fun _ hk => hk.2) (.int .i64 a0_3)) (fun _ hk => hk.2) (.int .i64 a0_4)) (fun _ hk => hk.2) (.int .i64 a0_5)) (fun _ hk => hk.2) (.slice Ao141 x410006_2.length co141)) (fun _ hk => hk.2) (.slice Ao142 x410007_3.length co142)) (fun _ hk => hk.2) (.bool a0_8)) (fun _ hk => trivial)))⟩; have n2_ : Aside0 (w148.heap[gb404]? = some (.cells #[.int .i64 a0_0, .int .i64 a0_1, .int .i64 a0_2, .int .i64 a0_3, .int .i64 a0_4, .int .i64 a0_5, .slice A0_6 l0_6.length c0_6, .slice A0_7 l0_7.length c0_7, .bool a0_8] 29 (0, 0))) := ⟨(by rw [hw]; exact (by (with_reducible repeat (first | refine blk_drewN ?_ _ | refine blk_drew ?_ | refine blk_alloc ?_ _)); refine blk_far ?_ NB404_407.out _; (with_reducible repeat (first | refine blk_drewN ?_ _ | refine blk_drew ?_ | refine blk_alloc ?_ _)); refine blk_far ?_ NB404_407.out _; (with_reducible repeat (first | refine blk_drewN ?_ _ | refine blk_drew ?_ | refine blk_alloc ?_ _)); refine blk_far ?_ NB404_407.out _; (with_reducible repeat (first | refine blk_drewN ?_ _ | refine blk_drew ?_ | refine blk_alloc ?_ _)); refine blk_far ?_ NB404_407.out _; (with_reducible repeat (first | refine blk_drewN ?_ _ | refine blk_drew ?_ | refine blk_alloc ?_ _)); refine blk_far ?_ NB404_407.out _; (with_reducible repeat (first | refine blk_drewN ?_ _ | refine blk_drew ?_ | refine blk_alloc ?_ _)); refine blk_far ?_ NB404_407.out _; (with_reducible repeat (first | refine blk_drewN ?_ _ | refine blk_drew ?_ | refine blk_alloc ?_ _)); refine blk_far ?_ NB404_407.out _; (with_reducible repeat (first | refine blk_drewN ?_ _ | refine blk_drew ?_ | refine blk_alloc ?_ _)); refine blk_far ?_ NB404_407.out _; (with_reducible repeat (first | refine blk_drewN ?_ _ | refine blk_drew ?_ | refine blk_alloc ?_ _)); refine blk_far ?_ NB404_407.out _; (with_reducible repeat (first | refine blk_drewN ?_ _ | refine blk_drew ?_ | refine blk_alloc ?_ _)); exact BK404.out))⟩; have n3_ : Aside0 (w148.heap[gb405]? = some (.cells #[.int .i64 a1] 3 (0, 0))) := ⟨(by rw [hw]; exact (by (with_reducible repeat (first | refine blk_drewN ?_ _ | refine blk_drew ?_ | refine blk_alloc ?_ _)); refine blk_far ?_ NB405_407.out _; (with_reducible repeat (first | refine blk_drewN ?_ _ | refine blk_drew ?_ | refine blk_alloc ?_ _)); refine blk_far ?_ NB405_407.out _; (with_reducible repeat (first | refine blk_drewN ?_ _ | refine blk_drew ?_ | refine blk_alloc ?_ _)); refine blk_far ?_ NB405_407.out _; (with_reducible repeat (first | refine blk_drewN ?_ _ | refine blk_drew ?_ | refine blk_alloc ?_ _)); refine blk_far ?_ NB405_407.out _; (with_reducible repeat (first | refine blk_drewN ?_ _ | refine blk_drew ?_ | refine blk_alloc ?_ _)); refine blk_far ?_ NB405_407.out _; (with_reducible repeat (first | refine blk_drewN ?_ _ | refine blk_drew ?_ | refine blk_alloc ?_ _)); refine blk_far ?_ NB405_407.out _; (with_reducible repeat (first | refine blk_drewN ?_ _ | refine blk_drew ?_ | refine blk_alloc ?_ _)); refine blk_far ?_ NB405_407.out _; (with_reducible repeat (first | refine blk_drewN ?_ _ | refine blk_drew ?_ | refine blk_alloc ?_ _)); refine blk_far ?_ NB405_407.out _; (with_reducible repeat (first | refine blk_drewN ?_ _ | refine blk_drew ?_ | refine blk_alloc ?_ _)); refine blk_far ?_ NB405_407.out _; (with_reducible repeat (first | refine blk_drewN ?_ _ | refine blk_drew ?_ | refine blk_alloc ?_ _)); exact BK405.out))⟩; have n4_ : Aside0 (w148.heap[gb406]? = some (.cells #[.int .i64 a2] 3 (0, 0))) := ⟨(by rw [hw]; exact (by (with_reducible repeat (first | refine blk_drewN ?_ _ | refine blk_drew ?_ | refine blk_alloc ?_ _)); refine blk_far ?_ NB406_407.out _; (with_reducible repeat (first | refine blk_drewN ?_ _ | refine blk_drew ?_ | refine blk_alloc ?_ _)); refine blk_far ?_ NB406_407.out _; (with_reducible repeat (first | refine blk_drewN ?_ _ | refine blk_drew ?_ | refine blk_alloc ?_ _)); refine blk_far ?_ NB406_407.out _; (with_reducible repeat (first | refine blk_drewN ?_ _ | refine blk_drew ?_ | refine blk_alloc ?_ _)); refine blk_far ?_ NB406_407.out _; (with_reducible repeat (first | refine blk_drewN ?_ _ | refine blk_drew ?_ | refine blk_alloc ?_ _)); refine blk_far ?_ NB406_407.out _; (with_reducible repeat (first | refine blk_drewN ?_ _ | refine blk_drew ?_ | refine blk_alloc ?_ _)); refine blk_far ?_ NB406_407.out _; (with_reducible repeat (first | refine blk_drewN ?_ _ | refine blk_drew ?_ | refine blk_alloc ?_ _)); refine blk_far ?_ NB406_407.out _; (with_reducible repeat (first | refine blk_drewN ?_ _ | refine blk_drew ?_ | refine blk_alloc ?_ _)); refine blk_far ?_ NB406_407.out _; (with_reducible repeat (first | refine blk_drewN ?_ _ | refine blk_drew ?_ | refine blk_alloc ?_ _)); refine blk_far ?_ NB406_407.out _; (with_reducible repeat (first | refine blk_drewN ?_ _ | refine blk_drew ?_ | refine blk_alloc ?_ _)); exact BK406.out))⟩; have n5_ : Aside0 (w148.heap[gb407]? = some (.cells #[.int .i64 a0_0, .int .i64 a0_1, .int .i64 a0_2, .int .i64 a0_3, .int .i64 a0_4, .int .i64 a0_5, .slice Ao141 x410006_2.length co141, .slice Ao142 x410007_3.length co142, .bool a0_8] 29 (0, 0))) := ⟨(by rw [hw]; exact (by (with_reducible repeat (first | refine blk_drewN ?_ _ | refine blk_drew ?_ | refine blk_alloc ?_ _)); refine blk_put (cs := #[.int .i64 a0_0, .int .i64 a0_1, .int .i64 a0_2, .int .i64 a0_3, .int .i64 a0_4, .int .i64 a0_5, .slice Ao141 x410006_2.length co141, .slice Ao142 x410007_3.length co142, .bool false]) ?_ 8 _ rfl; (with_reducible repeat (first | refine blk_drewN ?_ _ | refine blk_drew ?_ | refine blk_alloc ?_ _)); refine blk_put (cs := #[.int .i64 a0_0, .int .i64 a0_1, .int .i64 a0_2, .int .i64 a0_3, .int .i64 a0_4, .int .i64 a0_5, .slice Ao141 x410006_2.length co141, .slice none 0 0, .bool false]) ?_ 7 _ rfl; (with_reducible repeat (first | refine blk_drewN ?_ _ | refine blk_drew ?_ | refine blk_alloc ?_ _)); refine blk_put (cs := #[.int .i64 a0_0, .int .i64 a0_1, .int .i64 a0_2, .int .i64 a0_3, .int .i64 a0_4, .int .i64 a0_5, .slice none 0 0, .slice none 0 0, .bool false]) ?_ 6 _ rfl; (with_reducible repeat (first | refine blk_drewN ?_ _ | refine blk_drew ?_ | refine blk_alloc ?_ _)); refine blk_put (cs := #[.int .i64 a0_0, .int .i64 a0_1, .int .i64 a0_2, .int .i64 a0_3, .int .i64 a0_4, .int .i64 0, .slice none 0 0, .slice none 0 0, .bool false]) ?_ 5 _ rfl; (with_reducible repeat (first | refine blk_drewN ?_ _ | refine blk_drew ?_ | refine blk_alloc ?_ _)); refine blk_put (cs := #[.int .i64 a0_0, .int .i64 a0_1, .int .i64 a0_2, .int .i64 a0_3, .int .i64 0, .int .i64 0, .slice none 0 0, .slice none 0 0, .bool false]) ?_ 4 _ rfl; (with_reducible repeat (first | refine blk_drewN ?_ _ | refine blk_drew ?_ | refine blk_alloc ?_ _)); refine blk_put (cs := #[.int .i64 a0_0, .int .i64 a0_1, .int .i64 a0_2, .int .i64 0, .int .i64 0, .int .i64 0, .slice none 0 0, .slice none 0 0, .bool false]) ?_ 3 _ rfl; (with_reducible repeat (first | refine blk_drewN ?_ _ | refine blk_drew ?_ | refine blk_alloc ?_ _)); refine blk_put (cs := #[.int .i64 a0_0, .int .i64 a0_1, .int .i64 0, .int .i64 0, .int .i64 0, .int .i64 0, .slice none 0 0, .slice none 0 0, .bool false]) ?_ 2 _ rfl; (with_reducible repeat (first | refine blk_drewN ?_ _ | refine blk_drew ?_ | refine blk_alloc ?_ _)); refine blk_put (cs := #[.int .i64 a0_0, .int .i64 0, .int .i64 0, .int .i64 0, .int .i64 0, .int .i64 0, .slice none 0 0, .slice none 0 0, .bool false]) ?_ 1 _ rfl; (with_reducible repeat (first | refine blk_drewN ?_ _ | refine blk_drew ?_ | refine blk_alloc ?_ _)); refine blk_put (cs := #[.int .i64 0, .int .i64 0, .int .i64 0, .int .i64 0, .int .i64 0, .int .i64 0, .slice none 0 0, .slice none 0 0, .bool false]) ?_ 0 _ rfl; (with_reducible repeat (first | refine blk_drewN ?_ _ | refine blk_drew ?_ | refine blk_alloc ?_ _)); exact BK407.out))⟩; have n6_ : Aside0 (w148.heap[gb409]? = some (.cells #[.int .i64 a0_0, .int .i64 a0_1, .int .i64 a0_2, .int .i64 a0_3, .int .i64 a0_4, .int .i64 a0_5, .slice Ao141 x410006_2.length co141, .slice Ao142 x410007_3.length co142, .bool a0_8] 29 (0, 0))) := ⟨(by rw [hw]; exact (by (with_reducible repeat (first | refine blk_drewN ?_ _ | refine blk_drew ?_ | refine blk_alloc ?_ _)); refine blk_far ?_ NB409_407.out _; (with_reducible repeat (first | refine blk_drewN ?_ _ | refine blk_drew ?_ | refine blk_alloc ?_ _)); refine blk_far ?_ NB409_407.out _; (with_reducible repeat (first | refine blk_drewN ?_ _ | refine blk_drew ?_ | refine blk_alloc ?_ _)); refine blk_far ?_ NB409_407.out _; (with_reducible repeat (first | refine blk_drewN ?_ _ | refine blk_drew ?_ | refine blk_alloc ?_ _)); refine blk_far ?_ NB409_407.out _; (with_reducible repeat (first | refine blk_drewN ?_ _ | refine blk_drew ?_ | refine blk_alloc ?_ _)); refine blk_far ?_ NB409_407.out _; (with_reducible repeat (first | refine blk_drewN ?_ _ | refine blk_drew ?_ | refine blk_alloc ?_ _)); refine blk_far ?_ NB409_407.out _; (with_reducible repeat (first | refine blk_drewN ?_ _ | refine blk_drew ?_ | refine blk_alloc ?_ _)); refine blk_far ?_ NB409_407.out _; (with_reducible repeat (first | refine blk_drewN ?_ _ | refine blk_drew ?_ | refine blk_alloc ?_ _)); refine blk_far ?_ NB409_407.out _; (with_reducible repeat (first | refine blk_drewN ?_ _ | refine blk_drew ?_ | refine blk_alloc ?_ _)); refine blk_far ?_ NB409_407.out _; (with_reducible repeat (first | refine blk_drewN ?_ _ | refine blk_drew ?_ | refine blk_alloc ?_ _)); exact BK409.out))⟩; have n7_ : Aside0 (Below w.heap.size w w148) := ⟨(by rw [hw]; exact (by repeat (first | (with_reducible first | exact HB.out | apply below_alloc | apply pw_below_drewN | apply below_drew1 | refine below_set ?_ GE404.out | refine below_set ?_ GE405.out | refine below_set ?_ GE406.out | refine below_set ?_ GE407.out | refine below_set ?_ GE409.out) | exact HB.out)))⟩; clear hw; clear HO_410006; clear HO_410007; clear BK404; clear BK405; clear BK406; clear BK407; clear BK409; clear HB; have HO_410006 := n0_; have HO_410007 := n1_; have BK404 := n2_; have BK405 := n3_; have BK406 := n4_; have BK407 := n5_; have BK409 := n6_; have HB := n7_; clear n0_ n1_ n2_ n3_ n4_ n5_ n6_ n7_))
               refine bodyPost_ret (results_ct rfl _ _ gb407 29 #[.int .i64 a0_0, .int .i64 a0_1, .int .i64 a0_2, .int .i64 a0_3, .int .i64 a0_4, .int .i64 a0_5, .slice Ao141 x410006_2.length co141, .slice Ao142 x410007_3.length co142, .bool a0_8] (0, 0) _ rfl (kb_ BK407.out) Try.underlying29 rfl (by kernel_rfl)) rfl ?_
               exact ⟨_, _, by first | rfl | (simp [errW_none, errW_some] <;> rfl) | (simp [*, errW_none, errW_some] <;> rfl), by (with_reducible repeat (first | apply Kd.R_alloc | apply Kd.R_drewN | apply Kd.R_drew)); exact HO_410006.out, by (with_reducible repeat (first | apply Kd.R_alloc | apply Kd.R_drewN | apply Kd.R_drew)); exact HO_410007.out, by repeat (first | (with_reducible first | exact HB.out | apply below_alloc | apply pw_below_drewN | apply below_drew1 | refine below_set ?_ GE404.out | refine below_set ?_ GE405.out | refine below_set ?_ GE406.out | refine below_set ?_ GE407.out | refine below_set ?_ GE409.out) | exact HB.out)⟩
end Go.Proofs.Ytnjeeedndnfglaa.X
end
section
namespace Go.Proofs.Ytnjeeedndnfglaa.X
open Go.RowKit Go.Proofs.YtnjeeedndnfglaaW.PrintWords Go.Proofs.YtnjeeedndnfglaaW.PrintLast Go.Proofs.YtnjeeedndnfglaaW.PrintMore
attribute [local go_sem] max2_int min2_int max_two min_two max_three min_three max_four min_four   -- for this text's walks alone
set_option linter.unusedVariables false
set_option linter.unusedSimpArgs false
/-! ### althingref02_RightTxn: function 36 -/
def althingref02_RightTxn.f (a0_0 : Int) (a0_1 : Int) : Option (Bool) := if a0_0 ≥ 0 then (if a0_0 ≤ 3 then (if a0_1 ≥ 1 then (some (decide (a0_1 ≤ 1099511627776))) else (some false)) else (some false)) else (some false)
set_option maxHeartbeats 8000000 in
set_option maxRecDepth 100000 in
theorem althingref02_RightTxn.calls (a0_0 : Int) (a0_1 : Int) (r : Bool) (w : World) (h : althingref02_RightTxn.f a0_0 a0_1 = some r) :
 Calls Try.prog 36 #[.agg #[.int .i64 a0_0, .int .i64 a0_1]] w fun e w' => e = .returned (.bool r) ∧ Below w.heap.size w w' := by
 have hu23 := Try.underlying23
 have HB := Aside0.mk (Below.refl w.heap.size w)
 have H : (if a0_0 ≥ 0 then (if a0_0 ≤ 3 then (if a0_1 ≥ 1 then (some (decide (a0_1 ≤ 1099511627776))) else (some false)) else (some false)) else (some false)) = some r := h
 clear h
 by_cases c2 : a0_0 ≥ 0
 · rw [if_pos c2] at H
   have c2b0 : decide (0 ≤ a0_0) = true := decide_eq_true c2
   clear c2
   by_cases c3 : a0_0 ≤ 3
   · rw [if_pos c3] at H
     have c3b0 : decide (a0_0 ≤ 3) = true := decide_eq_true c3
     clear c3
     by_cases c4 : a0_1 ≥ 1
     · rw [if_pos c4] at H
       have c4b0 : decide (1 ≤ a0_1) = true := decide_eq_true c4
       clear c4
       obtain rfl := Option.some.inj H
       go_enter Try.func36, Try.ntmps36
       go_wp2_with (first | ((with_reducible refine gate_dst (N := 1) rfl ?_); refine box_event ?hg (N := 1) ?hd (cs := #[.int .i64 a0_0, .int .i64 a0_1]) (t := 23) ?hr ?_; (case hd => rfl); (case hg => rfl); (case hr => first | (go_simp; done) | (go_simp; rfl)); intro gb463 hg w5 hbox hb; have n0_ := Aside0.mk (below_step lb_ hb); have n1_ := Aside0.mk (hbox); have n2_ := Aside0.mk ((by rw [hg]; exact (below_size lb_) : w.heap.size ≤ gb463)); have n3_ := Aside0.mk ((by rw [hg]; exact (below_size lb_) : w.heap.size ≤ gb463)); clear HB; have HB := n0_; have BK463 := n1_; have GW463 := n2_; have GE463 := n3_; clear n0_ n1_ n2_ n3_; clear hb hbox hg; refine blk2_ BK463.out fun hcz6_0 hcz6_1 hfz6_0 hfz6_1 => ?_))
       go_ret
       exact ⟨by first | rfl | (simp [errW_none, errW_some] <;> rfl) | (simp [*, errW_none, errW_some] <;> rfl), by repeat (first | (with_reducible first | exact HB.out | apply below_alloc | apply pw_below_drewN | apply below_drew1 | refine below_set ?_ GE463.out) | exact HB.out)⟩
     · rw [if_neg c4] at H
       have c4b0 : decide (1 ≤ a0_1) = false := decide_eq_false c4
       clear c4
       obtain rfl := Option.some.inj H
       go_enter Try.func36, Try.ntmps36
       go_wp2_with (first | ((with_reducible refine gate_dst (N := 1) rfl ?_); refine box_event ?hg (N := 1) ?hd (cs := #[.int .i64 a0_0, .int .i64 a0_1]) (t := 23) ?hr ?_; (case hd => rfl); (case hg => rfl); (case hr => first | (go_simp; done) | (go_simp; rfl)); intro gb463 hg w7 hbox hb; have n0_ := Aside0.mk (below_step lb_ hb); have n1_ := Aside0.mk (hbox); have n2_ := Aside0.mk ((by rw [hg]; exact (below_size lb_) : w.heap.size ≤ gb463)); have n3_ := Aside0.mk ((by rw [hg]; exact (below_size lb_) : w.heap.size ≤ gb463)); clear HB; have HB := n0_; have BK463 := n1_; have GW463 := n2_; have GE463 := n3_; clear n0_ n1_ n2_ n3_; clear hb hbox hg; refine blk2_ BK463.out fun hcz8_0 hcz8_1 hfz8_0 hfz8_1 => ?_))
       go_ret
       exact ⟨by first | rfl | (simp [errW_none, errW_some] <;> rfl) | (simp [*, errW_none, errW_some] <;> rfl), by repeat (first | (with_reducible first | exact HB.out | apply below_alloc | apply pw_below_drewN | apply below_drew1 | refine below_set ?_ GE463.out) | exact HB.out)⟩
   · rw [if_neg c3] at H
     have c3b0 : decide (a0_0 ≤ 3) = false := decide_eq_false c3
     clear c3
     obtain rfl := Option.some.inj H
     go_enter Try.func36, Try.ntmps36
     go_wp2_with (first | ((with_reducible refine gate_dst (N := 1) rfl ?_); refine box_event ?hg (N := 1) ?hd (cs := #[.int .i64 a0_0, .int .i64 a0_1]) (t := 23) ?hr ?_; (case hd => rfl); (case hg => rfl); (case hr => first | (go_simp; done) | (go_simp; rfl)); intro gb463 hg w9 hbox hb; have n0_ := Aside0.mk (below_step lb_ hb); have n1_ := Aside0.mk (hbox); have n2_ := Aside0.mk ((by rw [hg]; exact (below_size lb_) : w.heap.size ≤ gb463)); have n3_ := Aside0.mk ((by rw [hg]; exact (below_size lb_) : w.heap.size ≤ gb463)); clear HB; have HB := n0_; have BK463 := n1_; have GW463 := n2_; have GE463 := n3_; clear n0_ n1_ n2_ n3_; clear hb hbox hg; refine blk2_ BK463.out fun hcz10_0 hcz10_1 hfz10_0 hfz10_1 => ?_))
     go_ret
     exact ⟨by first | rfl | (simp [errW_none, errW_some] <;> rfl) | (simp [*, errW_none, errW_some] <;> rfl), by repeat (first | (with_reducible first | exact HB.out | apply below_alloc | apply pw_below_drewN | apply below_drew1 | refine below_set ?_ GE463.out) | exact HB.out)⟩
 · rw [if_neg c2] at H
   have c2b0 : decide (0 ≤ a0_0) = false := decide_eq_false c2
   clear c2
   obtain rfl := Option.some.inj H
   go_enter Try.func36, Try.ntmps36
   go_wp2_with (first | ((with_reducible refine gate_dst (N := 1) rfl ?_); refine box_event ?hg (N := 1) ?hd (cs := #[.int .i64 a0_0, .int .i64 a0_1]) (t := 23) ?hr ?_; (case hd => rfl); (case hg => rfl); (case hr => first | (go_simp; done) | (go_simp; rfl)); intro gb463 hg w11 hbox hb; have n0_ := Aside0.mk (below_step lb_ hb); have n1_ := Aside0.mk (hbox); have n2_ := Aside0.mk ((by rw [hg]; exact (below_size lb_) : w.heap.size ≤ gb463)); have n3_ := Aside0.mk ((by rw [hg]; exact (below_size lb_) : w.heap.size ≤ gb463)); clear HB; have HB := n0_; have BK463 := n1_; have GW463 := n2_; have GE463 := n3_; clear n0_ n1_ n2_ n3_; clear hb hbox hg; refine blk2_ BK463.out fun hcz12_0 hcz12_1 hfz12_0 hfz12_1 => ?_))
   go_ret
   exact ⟨by first | rfl | (simp [errW_none, errW_some] <;> rfl) | (simp [*, errW_none, errW_some] <;> rfl), by repeat (first | (with_reducible first | exact HB.out | apply below_alloc | apply pw_below_drewN | apply below_drew1 | refine below_set ?_ GE463.out) | exact HB.out)⟩
end Go.Proofs.Ytnjeeedndnfglaa.X
end
section
namespace Go.Proofs.Ytnjeeedndnfglaa.X
open Go.RowKit Go.Proofs.YtnjeeedndnfglaaW.PrintWords Go.Proofs.YtnjeeedndnfglaaW.PrintLast Go.Proofs.YtnjeeedndnfglaaW.PrintMore
attribute [local go_sem] max2_int min2_int max_two min_two max_three min_three max_four min_four   -- for this text's walks alone
set_option linter.unusedVariables false
set_option linter.unusedSimpArgs false
/-! ### althingref02_RightStamp: function 37 -/
def althingref02_RightStamp.f (a0_0 : Int) (a0_1 : Int) : Option (Bool) := if a0_0 ≥ 0 then (if a0_0 ≤ 1099511627776 then (if a0_1 ≥ 0 then (some (decide (a0_1 ≤ 3))) else (some false)) else (some false)) else (some false)
set_option maxHeartbeats 8000000 in
set_option maxRecDepth 100000 in
theorem althingref02_RightStamp.calls (a0_0 : Int) (a0_1 : Int) (r : Bool) (w : World) (h : althingref02_RightStamp.f a0_0 a0_1 = some r) :
 Calls Try.prog 37 #[.agg #[.int .i64 a0_0, .int .i64 a0_1]] w fun e w' => e = .returned (.bool r) ∧ Below w.heap.size w w' := by
 have hu25 := Try.underlying25
 have HB := Aside0.mk (Below.refl w.heap.size w)
 have H : (if a0_0 ≥ 0 then (if a0_0 ≤ 1099511627776 then (if a0_1 ≥ 0 then (some (decide (a0_1 ≤ 3))) else (some false)) else (some false)) else (some false)) = some r := h
 clear h
 by_cases c2 : a0_0 ≥ 0
 · rw [if_pos c2] at H
   have c2b0 : decide (0 ≤ a0_0) = true := decide_eq_true c2
   clear c2
   by_cases c3 : a0_0 ≤ 1099511627776
   · rw [if_pos c3] at H
     have c3b0 : decide (a0_0 ≤ 1099511627776) = true := decide_eq_true c3
     clear c3
     by_cases c4 : a0_1 ≥ 0
     · rw [if_pos c4] at H
       have c4b0 : decide (0 ≤ a0_1) = true := decide_eq_true c4
       clear c4
       obtain rfl := Option.some.inj H
       go_enter Try.func37, Try.ntmps37
       go_wp2_with (first | ((with_reducible refine gate_dst (N := 1) rfl ?_); refine box_event ?hg (N := 1) ?hd (cs := #[.int .i64 a0_0, .int .i64 a0_1]) (t := 25) ?hr ?_; (case hd => rfl); (case hg => rfl); (case hr => first | (go_simp; done) | (go_simp; rfl)); intro gb464 hg w5 hbox hb; have n0_ := Aside0.mk (below_step lb_ hb); have n1_ := Aside0.mk (hbox); have n2_ := Aside0.mk ((by rw [hg]; exact (below_size lb_) : w.heap.size ≤ gb464)); have n3_ := Aside0.mk ((by rw [hg]; exact (below_size lb_) : w.heap.size ≤ gb464)); clear HB; have HB := n0_; have BK464 := n1_; have GW464 := n2_; have GE464 := n3_; clear n0_ n1_ n2_ n3_; clear hb hbox hg; refine blk2_ BK464.out fun hcz6_0 hcz6_1 hfz6_0 hfz6_1 => ?_))
       go_ret
       exact ⟨by first | rfl | (simp [errW_none, errW_some] <;> rfl) | (simp [*, errW_none, errW_some] <;> rfl), by repeat (first | (with_reducible first | exact HB.out | apply below_alloc | apply pw_below_drewN | apply below_drew1 | refine below_set ?_ GE464.out) | exact HB.out)⟩
     · rw [if_neg c4] at H
       have c4b0 : decide (0 ≤ a0_1) = false := decide_eq_false c4
       clear c4
       obtain rfl := Option.some.inj H
       go_enter Try.func37, Try.ntmps37
       go_wp2_with (first | ((with_reducible refine gate_dst (N := 1) rfl ?_); refine box_event ?hg (N := 1) ?hd (cs := #[.int .i64 a0_0, .int .i64 a0_1]) (t := 25) ?hr ?_; (case hd => rfl); (case hg => rfl); (case hr => first | (go_simp; done) | (go_simp; rfl)); intro gb464 hg w7 hbox hb; have n0_ := Aside0.mk (below_step lb_ hb); have n1_ := Aside0.mk (hbox); have n2_ := Aside0.mk ((by rw [hg]; exact (below_size lb_) : w.heap.size ≤ gb464)); have n3_ := Aside0.mk ((by rw [hg]; exact (below_size lb_) : w.heap.size ≤ gb464)); clear HB; have HB := n0_; have BK464 := n1_; have GW464 := n2_; have GE464 := n3_; clear n0_ n1_ n2_ n3_; clear hb hbox hg; refine blk2_ BK464.out fun hcz8_0 hcz8_1 hfz8_0 hfz8_1 => ?_))
       go_ret
       exact ⟨by first | rfl | (simp [errW_none, errW_some] <;> rfl) | (simp [*, errW_none, errW_some] <;> rfl), by repeat (first | (with_reducible first | exact HB.out | apply below_alloc | apply pw_below_drewN | apply below_drew1 | refine below_set ?_ GE464.out) | exact HB.out)⟩
   · rw [if_neg c3] at H
     have c3b0 : decide (a0_0 ≤ 1099511627776) = false := decide_eq_false c3
     clear c3
     obtain rfl := Option.some.inj H
     go_enter Try.func37, Try.ntmps37
     go_wp2_with (first | ((with_reducible refine gate_dst (N := 1) rfl ?_); refine box_event ?hg (N := 1) ?hd (cs := #[.int .i64 a0_0, .int .i64 a0_1]) (t := 25) ?hr ?_; (case hd => rfl); (case hg => rfl); (case hr => first | (go_simp; done) | (go_simp; rfl)); intro gb464 hg w9 hbox hb; have n0_ := Aside0.mk (below_step lb_ hb); have n1_ := Aside0.mk (hbox); have n2_ := Aside0.mk ((by rw [hg]; exact (below_size lb_) : w.heap.size ≤ gb464)); have n3_ := Aside0.mk ((by rw [hg]; exact (below_size lb_) : w.heap.size ≤ gb464)); clear HB; have HB := n0_; have BK464 := n1_; have GW464 := n2_; have GE464 := n3_; clear n0_ n1_ n2_ n3_; clear hb hbox hg; refine blk2_ BK464.out fun hcz10_0 hcz10_1 hfz10_0 hfz10_1 => ?_))
     go_ret
     exact ⟨by first | rfl | (simp [errW_none, errW_some] <;> rfl) | (simp [*, errW_none, errW_some] <;> rfl), by repeat (first | (with_reducible first | exact HB.out | apply below_alloc | apply pw_below_drewN | apply below_drew1 | refine below_set ?_ GE464.out) | exact HB.out)⟩
 · rw [if_neg c2] at H
   have c2b0 : decide (0 ≤ a0_0) = false := decide_eq_false c2
   clear c2
   obtain rfl := Option.some.inj H
   go_enter Try.func37, Try.ntmps37
   go_wp2_with (first | ((with_reducible refine gate_dst (N := 1) rfl ?_); refine box_event ?hg (N := 1) ?hd (cs := #[.int .i64 a0_0, .int .i64 a0_1]) (t := 25) ?hr ?_; (case hd => rfl); (case hg => rfl); (case hr => first | (go_simp; done) | (go_simp; rfl)); intro gb464 hg w11 hbox hb; have n0_ := Aside0.mk (below_step lb_ hb); have n1_ := Aside0.mk (hbox); have n2_ := Aside0.mk ((by rw [hg]; exact (below_size lb_) : w.heap.size ≤ gb464)); have n3_ := Aside0.mk ((by rw [hg]; exact (below_size lb_) : w.heap.size ≤ gb464)); clear HB; have HB := n0_; have BK464 := n1_; have GW464 := n2_; have GE464 := n3_; clear n0_ n1_ n2_ n3_; clear hb hbox hg; refine blk2_ BK464.out fun hcz12_0 hcz12_1 hfz12_0 hfz12_1 => ?_))
   go_ret
   exact ⟨by first | rfl | (simp [errW_none, errW_some] <;> rfl) | (simp [*, errW_none, errW_some] <;> rfl), by repeat (first | (with_reducible first | exact HB.out | apply below_alloc | apply pw_below_drewN | apply below_drew1 | refine below_set ?_ GE464.out) | exact HB.out)⟩
end Go.Proofs.Ytnjeeedndnfglaa.X
end
section
namespace Go.Proofs.Ytnjeeedndnfglaa.X
open Go.RowKit Go.Proofs.YtnjeeedndnfglaaW.PrintWords Go.Proofs.YtnjeeedndnfglaaW.PrintLast Go.Proofs.YtnjeeedndnfglaaW.PrintMore
attribute [local go_sem] max2_int min2_int max_two min_two max_three min_three max_four min_four   -- for this text's walks alone
set_option linter.unusedVariables false
set_option linter.unusedSimpArgs false
/-! ### althingref02_Order: function 53 -/
def althingref02_Order.f (a0 : Int) (a1 : Int) (a2 : Int) (a3 : Int) : Option (Int) := if a0 < a2 then (some (-1)) else (if a0 > a2 then (some 1) else (if a1 < a3 then (some (-1)) else (if a1 > a3 then (some 1) else (some 0))))
set_option maxHeartbeats 8000000 in
set_option maxRecDepth 100000 in
theorem althingref02_Order.calls (a0 : Int) (a1 : Int) (a2 : Int) (a3 : Int) (r : Int) (w : World) (h : althingref02_Order.f a0 a1 a2 a3 = some r) :
 Calls Try.prog 53 #[.int .i64 a0, .int .i64 a1, .int .i64 a2, .int .i64 a3] w fun e w' => e = .returned (.int .i64 r) ∧ Drawn0 w w' := by
 have H : (if a0 < a2 then (some (-1)) else (if a0 > a2 then (some 1) else (if a1 < a3 then (some (-1)) else (if a1 > a3 then (some 1) else (some 0))))) = some r := h
 clear h
 by_cases c5 : a0 < a2
 · rw [if_pos c5] at H
   have c5b0 : decide (a0 < a2) = true := decide_eq_true c5
   clear c5
   obtain rfl := Option.some.inj H
   go_enter Try.func53, Try.ntmps53
   go_wp2
   go_ret
   exact ⟨by first | rfl | (simp; done) | (simp [*]; done), by repeat (first | exact Drawn0.refl _ | apply Drawn0.step)⟩
 · rw [if_neg c5] at H
   have c5b0 : decide (a0 < a2) = false := decide_eq_false c5
   clear c5
   by_cases c6 : a0 > a2
   · rw [if_pos c6] at H
     have c6b0 : decide (a2 < a0) = true := decide_eq_true c6
     clear c6
     obtain rfl := Option.some.inj H
     go_enter Try.func53, Try.ntmps53
     go_wp2
     go_ret
     exact ⟨by first | rfl | (simp; done) | (simp [*]; done), by repeat (first | exact Drawn0.refl _ | apply Drawn0.step)⟩
   · rw [if_neg c6] at H
     have c6b0 : decide (a2 < a0) = false := decide_eq_false c6
     clear c6
     by_cases c7 : a1 < a3
     · rw [if_pos c7] at H
       have c7b0 : decide (a1 < a3) = true := decide_eq_true c7
       clear c7
       obtain rfl := Option.some.inj H
       go_enter Try.func53, Try.ntmps53
       go_wp2
       go_ret
       exact ⟨by first | rfl | (simp; done) | (simp [*]; done), by repeat (first | exact Drawn0.refl _ | apply Drawn0.step)⟩
     · rw [if_neg c7] at H
       have c7b0 : decide (a1 < a3) = false := decide_eq_false c7
       clear c7
       by_cases c8 : a1 > a3
       · rw [if_pos c8] at H
         have c8b0 : decide (a3 < a1) = true := decide_eq_true c8
         clear c8
         obtain rfl := Option.some.inj H
         go_enter Try.func53, Try.ntmps53
         go_wp2
         go_ret
         exact ⟨by first | rfl | (simp; done) | (simp [*]; done), by repeat (first | exact Drawn0.refl _ | apply Drawn0.step)⟩
       · rw [if_neg c8] at H
         have c8b0 : decide (a3 < a1) = false := decide_eq_false c8
         clear c8
         obtain rfl := Option.some.inj H
         go_enter Try.func53, Try.ntmps53
         go_wp2
         go_ret
         exact ⟨by first | rfl | (simp; done) | (simp [*]; done), by repeat (first | exact Drawn0.refl _ | apply Drawn0.step)⟩
end Go.Proofs.Ytnjeeedndnfglaa.X
end
section
namespace Go.Proofs.Ytnjeeedndnfglaa.X
open Go.RowKit Go.Proofs.YtnjeeedndnfglaaW.PrintWords Go.Proofs.YtnjeeedndnfglaaW.PrintLast Go.Proofs.YtnjeeedndnfglaaW.PrintMore
attribute [local go_sem] max2_int min2_int max_two min_two max_three min_three max_four min_four   -- for this text's walks alone
set_option linter.unusedVariables false
set_option linter.unusedSimpArgs false
/-! ### althingref02_Before: function 38 -/
def althingref02_Before.f (a0_0 : Int) (a0_1 : Int) (a1_0 : Int) (a1_1 : Int) : Option (Bool) := (althingref02_Order.f a0_0 a0_1 a1_0 a1_1).bind fun t467 => (some (decide (t467 < 0)))
set_option maxHeartbeats 8000000 in
set_option maxRecDepth 100000 in
theorem althingref02_Before.calls (a0_0 : Int) (a0_1 : Int) (a1_0 : Int) (a1_1 : Int) (r : Bool) (w : World) (h : althingref02_Before.f a0_0 a0_1 a1_0 a1_1 = some r) :
 Calls Try.prog 38 #[.agg #[.int .i64 a0_0, .int .i64 a0_1], .agg #[.int .i64 a1_0, .int .i64 a1_1]] w fun e w' => e = .returned (.bool r) ∧ Below w.heap.size w w' := by
 have hu25 := Try.underlying25
 have HB := Aside0.mk (Below.refl w.heap.size w)
 have H : ((althingref02_Order.f a0_0 a0_1 a1_0 a1_1).bind fun t467 => (some (decide (t467 < 0)))) = some r := h
 clear h
 obtain ⟨t467, A3, H⟩ := bs_ H
 obtain rfl := Option.some.inj H
 go_enter Try.func38, Try.ntmps38
 go_wp2_with (first | ((with_reducible refine gate_dst (N := 2) rfl ?_); refine box_event ?hg (N := 2) ?hd (cs := #[.int .i64 a0_0, .int .i64 a0_1]) (t := 25) ?hr ?_; (case hd => rfl); (case hg => rfl); (case hr => first | (go_simp; done) | (go_simp; rfl)); intro gb465 hg w4 hbox hb; have n0_ := Aside0.mk (below_step lb_ hb); have n1_ := Aside0.mk (hbox); have n2_ := Aside0.mk ((by rw [hg]; exact (below_size lb_) : w.heap.size ≤ gb465)); have n3_ := Aside0.mk ((by rw [hg]; exact (below_size lb_) : w.heap.size ≤ gb465)); clear HB; have HB := n0_; have BK465 := n1_; have GW465 := n2_; have GE465 := n3_; clear n0_ n1_ n2_ n3_; clear hb hbox hg) | ((with_reducible refine gate_dst (N := 3) rfl ?_); refine box_event ?hg (N := 3) ?hd (cs := #[.int .i64 a1_0, .int .i64 a1_1]) (t := 25) ?hr ?_; (case hd => rfl); (case hg => rfl); (case hr => first | (go_simp; done) | (go_simp; rfl)); intro gb466 hg w5 hbox hb; have n0_ := Aside0.mk (blk_below (kb_ BK465.out) hb); have n1_ := Aside0.mk (below_step (by repeat (first | (with_reducible first | exact HB.out | apply below_alloc | apply pw_below_drewN | apply below_drew1 | refine below_set ?_ GE465.out) | exact HB.out)) hb); have n2_ := Aside0.mk (hbox); have n3_ := Aside0.mk ((by rw [hg]; exact (below_size (by repeat (first | (with_reducible first | exact HB.out | apply below_alloc | apply pw_below_drewN | apply below_drew1 | refine below_set ?_ GE465.out) | exact HB.out))) : w.heap.size ≤ gb466)); have n4_ := Aside0.mk ((by rw [hg]; exact (below_size (by repeat (first | (with_reducible first | exact HB.out | apply below_alloc | apply pw_below_drewN | apply below_drew1 | refine below_set ?_ GE465.out) | exact HB.out))) : w.heap.size ≤ gb466)); have n5_ := Aside0.mk ((by rw [hg]; exact Nat.ne_of_lt (blk_lt (kb_ BK465.out)) : gb465 ≠ gb466)); have n6_ := Aside0.mk ((by rw [hg]; exact Nat.ne_of_gt (blk_lt (kb_ BK465.out)) : gb466 ≠ gb465)); clear BK465; clear HB; have BK465 := n0_; have HB := n1_; have BK466 := n2_; have GW466 := n3_; have GE466 := n4_; have NB465_466 := n5_; have NB466_465 := n6_; clear n0_ n1_ n2_ n3_ n4_ n5_ n6_; clear hb hbox hg; have hnb6 := NB465_466.out; have hnc6 := NB466_465.out; refine blk2_ BK465.out fun hcz7_0 hcz7_1 hfz7_0 hfz7_1 => ?_; refine blk2_ BK466.out fun hcz8_0 hcz8_1 hfz8_0 hfz8_1 => ?_) | ((with_reducible refine gate_callee (f := 53) rfl ?_); refine goesL_ (some 13) rfl rfl Try.func53 (by kernel_rfl) rfl #[.int .i64 a0_0, .int .i64 a0_1, .int .i64 a1_0, .int .i64 a1_1] rfl (by (try simp only [List.map_toArray, List.map_cons, List.map_nil]); first | done | rfl | (simp only [List.length_drop, List.length_take]; rfl)) ?_; (with_reducible refine (althingref02_Order.calls a0_0 a0_1 a1_0 a1_1 t467 _ A3.out).mono ?_); rintro e w' ⟨rfl, ⟨nd, rfl⟩⟩; refine ⟨_, rfl, ?_⟩))
 go_ret
 exact ⟨by first | rfl | (simp [errW_none, errW_some] <;> rfl) | (simp [*, errW_none, errW_some] <;> rfl), by repeat (first | (with_reducible first | exact HB.out | apply below_alloc | apply pw_below_drewN | apply below_drew1 | refine below_set ?_ GE465.out | refine below_set ?_ GE466.out) | exact HB.out)⟩
end Go.Proofs.Ytnjeeedndnfglaa.X
end
section
namespace Go.Proofs.Ytnjeeedndnfglaa.X
open Go.RowKit Go.Proofs.YtnjeeedndnfglaaW.PrintWords Go.Proofs.YtnjeeedndnfglaaW.PrintLast Go.Proofs.YtnjeeedndnfglaaW.PrintMore
attribute [local go_sem] max2_int min2_int max_two min_two max_three min_three max_four min_four   -- for this text's walks alone
set_option linter.unusedVariables false
set_option linter.unusedSimpArgs false
/-! ### althingref04_Before: function 41 -/
def althingref04_Before.l0 : Nat → ByteArray → ByteArray → Int → Option (Bool)
 | 0, _, _, _ => none
 | k + 1, x0, x1, x5 => if x5 < (x1.size : Int) then (if x5 = (x0.size : Int) then (some true) else (if 0 ≤ x5 then (if x5 < (x0.size : Int) then (if (bt x0 x5) = (bt x1 x5) then (althingref04_Before.l0 k x0 x1 (wrap64 (x5 + 1))) else (some (decide ((bt x0 x5) < (bt x1 x5))))) else (none)) else (none))) else (some false)
def althingref04_Before.f (k : Nat) (a0 : ByteArray) (a1 : ByteArray) : Option (Bool) := althingref04_Before.l0 k a0 a1 0
set_option maxHeartbeats 8000000 in
set_option maxRecDepth 100000 in
theorem althingref04_Before.calls (k : Nat) (a0 : ByteArray) (a1 : ByteArray) (r : Bool) (w : World) (h : althingref04_Before.f k a0 a1 = some r) :
 Calls Try.prog 41 #[.string a0, .string a1] w fun e w' => e = .returned (.bool r) ∧ Drawn0 w w' := by
 have H : (althingref04_Before.l0 k a0 a1 0) = some r := h
 clear h
 have H' := Aside0.mk H
 clear H
 go_enter Try.func41, Try.ntmps41
 go_wp2
 repeat (go_quiet (fail); try go_wp2)
 go_loopg [5] k (fun kq v5 w' => ∃ (x5_1 : Int), v5 = .int .i64 x5_1 ∧ Aside0 (althingref04_Before.l0 kq a0 a1 x5_1 = some r) ∧ Aside0 (kq ≤ k) ∧ Drawn0 w w')
 case atStart => exact ⟨(0), (by first | rfl | (simp; done) | (simp [*]; done)), H', ⟨Nat.le_refl _⟩, by repeat (first | exact Drawn0.refl _ | apply Drawn0.step)⟩
 case round =>
  clear H'
  try clear p2
  obtain ⟨x5_1, rfl, HA, HK1, ⟨m1, rfl⟩⟩ := hrel
  cases gk with
  | zero => exact absurd HA.out (by simp [althingref04_Before.l0])
  | succ k1 =>
   have H := HA.out
   clear HA
   simp only [althingref04_Before.l0] at H
   by_cases c3 : x5_1 < (a1.size : Int)
   · rw [if_pos c3] at H
     have c3b0 : decide (x5_1 < (a1.size : Int)) = true := decide_eq_true c3
     clear c3
     by_cases c4 : x5_1 = (a0.size : Int)
     · rw [if_pos c4] at H
       have c4b0 : (x5_1 == (a0.size : Int)) = true := beq_iff_eq.mpr c4
       have c4b1 : (x5_1 != (a0.size : Int)) = false := bne_eq_false_iff_eq.mpr c4
       clear c4
       obtain rfl := Option.some.inj H
       go_wp2
       repeat (go_quiet (fail); try go_wp2)
       go_ret
       exact ⟨by first | rfl | (simp; done) | (simp [*]; done), by repeat (first | exact Drawn0.refl _ | apply Drawn0.step)⟩
     · rw [if_neg c4] at H
       have c4b0 : (x5_1 == (a0.size : Int)) = false := beq_eq_false_iff_ne.mpr c4
       have c4b1 : (x5_1 != (a0.size : Int)) = true := bne_iff_ne.mpr c4
       by_cases c5 : 0 ≤ x5_1
       · rw [if_pos c5] at H
         have c5b0 : decide (0 ≤ x5_1) = true := decide_eq_true c5
         clear c5
         by_cases c6 : x5_1 < (a0.size : Int)
         · rw [if_pos c6] at H
           have c6b0 : decide (x5_1 < (a0.size : Int)) = true := decide_eq_true c6
           clear c6
           by_cases c9 : (bt a0 x5_1) = (bt a1 x5_1)
           · rw [if_pos c9] at H
             have c9b0 : ((bt a0 x5_1) == (bt a1 x5_1)) = true := beq_iff_eq.mpr c9
             have c9b1 : ((bt a0 x5_1) != (bt a1 x5_1)) = false := bne_eq_false_iff_eq.mpr c9
             clear c9
             have H' := Aside0.mk H
             clear H
             have p7 : 0 ≤ (x5_1 : Int) := of_decide_eq_true (by first | (with_reducible assumption) | assumption)
             have q7 : x5_1 < (a0.size : Int) := of_decide_eq_true (by first | (with_reducible assumption) | assumption)
             have hx7 := bt_at a0 x5_1
             replace p7 := eq_true p7
             replace q7 := eq_true q7
             have p8 : 0 ≤ (x5_1 : Int) := of_decide_eq_true (by first | (with_reducible assumption) | assumption)
             have q8 : x5_1 < (a1.size : Int) := of_decide_eq_true (by first | (with_reducible assumption) | assumption)
             have hx8 := bt_at a1 x5_1
             replace p8 := eq_true p8
             replace q8 := eq_true q8
             go_wp2
             repeat (go_quiet (fail); try go_wp2)
             go_roundg k1
             case measure => have := HK1.out; omega
             case rel => exact ⟨(wrap64 (x5_1 + 1)), (by first | rfl | (simp; done) | (simp [*]; done)), H', ⟨by have := HK1.out; omega⟩, by repeat (first | exact Drawn0.refl _ | apply Drawn0.step)⟩
           · rw [if_neg c9] at H
             have c9b0 : ((bt a0 x5_1) == (bt a1 x5_1)) = false := beq_eq_false_iff_ne.mpr c9
             have c9b1 : ((bt a0 x5_1) != (bt a1 x5_1)) = true := bne_iff_ne.mpr c9
             obtain rfl := Option.some.inj H
             have p7 : 0 ≤ (x5_1 : Int) := of_decide_eq_true (by first | (with_reducible assumption) | assumption)
             have q7 : x5_1 < (a0.size : Int) := of_decide_eq_true (by first | (with_reducible assumption) | assumption)
             have hx7 := bt_at a0 x5_1
             replace p7 := eq_true p7
             replace q7 := eq_true q7
             have p8 : 0 ≤ (x5_1 : Int) := of_decide_eq_true (by first | (with_reducible assumption) | assumption)
             have q8 : x5_1 < (a1.size : Int) := of_decide_eq_true (by first | (with_reducible assumption) | assumption)
             have hx8 := bt_at a1 x5_1
             replace p8 := eq_true p8
             replace q8 := eq_true q8
             have p10 : 0 ≤ (x5_1 : Int) := of_decide_eq_true (by first | (with_reducible assumption) | assumption)
             have q10 : x5_1 < (a0.size : Int) := of_decide_eq_true (by first | (with_reducible assumption) | assumption)
             have hx10 := bt_at a0 x5_1
             replace p10 := eq_true p10
             replace q10 := eq_true q10
             have p11 : 0 ≤ (x5_1 : Int) := of_decide_eq_true (by first | (with_reducible assumption) | assumption)
             have q11 : x5_1 < (a1.size : Int) := of_decide_eq_true (by first | (with_reducible assumption) | assumption)
             have hx11 := bt_at a1 x5_1
             replace p11 := eq_true p11
             replace q11 := eq_true q11
             go_wp2
             repeat (go_quiet (fail); try go_wp2)
             go_ret
             exact ⟨by first | rfl | (simp; done) | (simp [*]; done), by repeat (first | exact Drawn0.refl _ | apply Drawn0.step)⟩
         · rw [if_neg c6] at H
           exact absurd H (by simp)
       · rw [if_neg c5] at H
         exact absurd H (by simp)
   · rw [if_neg c3] at H
     have c3b0 : decide (x5_1 < (a1.size : Int)) = false := decide_eq_false c3
     clear c3
     obtain rfl := Option.some.inj H
     go_wp2
     repeat (go_quiet (fail); try go_wp2)
     go_ret
     exact ⟨by first | rfl | (simp; done) | (simp [*]; done), by repeat (first | exact Drawn0.refl _ | apply Drawn0.step)⟩
end Go.Proofs.Ytnjeeedndnfglaa.X
end
section
namespace Go.Proofs.Ytnjeeedndnfglaa.X
open Go.RowKit Go.Proofs.YtnjeeedndnfglaaW.PrintWords Go.Proofs.YtnjeeedndnfglaaW.PrintLast Go.Proofs.YtnjeeedndnfglaaW.PrintMore
attribute [local go_sem] max2_int min2_int max_two min_two max_three min_three max_four min_four   -- for this text's walks alone
set_option linter.unusedVariables false
set_option linter.unusedSimpArgs false
/-! ### althingref04_Right: function 54 -/
def althingref04_Right.f (a0 : ByteArray) : Option (Bool) := if (a0.size : Int) > 0 then (some (decide ((a0.size : Int) < 9))) else (some false)
set_option maxHeartbeats 8000000 in
set_option maxRecDepth 100000 in
theorem althingref04_Right.calls (a0 : ByteArray) (r : Bool) (w : World) (h : althingref04_Right.f a0 = some r) :
 Calls Try.prog 54 #[.string a0] w fun e w' => e = .returned (.bool r) ∧ Drawn0 w w' := by
 have H : (if (a0.size : Int) > 0 then (some (decide ((a0.size : Int) < 9))) else (some false)) = some r := h
 clear h
 by_cases c2 : (a0.size : Int) > 0
 · rw [if_pos c2] at H
   have c2b0 : decide (0 < (a0.size : Int)) = true := decide_eq_true c2
   have c2b1 : decide (0 < a0.size) = true := decide_eq_true (by omega)
   clear c2
   obtain rfl := Option.some.inj H
   go_enter Try.func54, Try.ntmps54
   go_wp2
   go_ret
   exact ⟨by first | rfl | (simp; done) | (simp [*]; done), by repeat (first | exact Drawn0.refl _ | apply Drawn0.step)⟩
 · rw [if_neg c2] at H
   have c2b0 : decide (0 < (a0.size : Int)) = false := decide_eq_false c2
   have c2b1 : decide (0 < a0.size) = false := decide_eq_false (by omega)
   clear c2
   obtain rfl := Option.some.inj H
   go_enter Try.func54, Try.ntmps54
   go_wp2
   go_ret
   exact ⟨by first | rfl | (simp; done) | (simp [*]; done), by repeat (first | exact Drawn0.refl _ | apply Drawn0.step)⟩
end Go.Proofs.Ytnjeeedndnfglaa.X
end
section
namespace Go.Proofs.Ytnjeeedndnfglaa.X
open Go.RowKit Go.Proofs.YtnjeeedndnfglaaW.PrintWords Go.Proofs.YtnjeeedndnfglaaW.PrintLast Go.Proofs.YtnjeeedndnfglaaW.PrintMore
attribute [local go_sem] max2_int min2_int max_two min_two max_three min_three max_four min_four   -- for this text's walks alone
set_option linter.unusedVariables false
set_option linter.unusedSimpArgs false
/-! ### althingref04_Rights: function 39 -/
def althingref04_Rights.l0 : Nat → List ByteArray → Int → Option (Bool)
 | 0, _, _ => none
 | k + 1, x0, x3 => if x3 < (x0.length : Int) then (if 0 ≤ x3 then ((althingref04_Right.f (rdOf ByteArray.empty x0 x3)).bind fun t469 => (if t469 = true then (if x3 > 0 then (if 0 ≤ (wrap64 (x3 - 1)) then (if (wrap64 (x3 - 1)) < (x0.length : Int) then ((althingref04_Before.f k (rdOf ByteArray.empty x0 (wrap64 (x3 - 1))) (rdOf ByteArray.empty x0 x3)).bind fun t472 => (if t472 = true then (althingref04_Rights.l0 k x0 (wrap64 (x3 + 1))) else (some false))) else (none)) else (none)) else (althingref04_Rights.l0 k x0 (wrap64 (x3 + 1)))) else (some false))) else (none)) else (some (decide ((x0.length : Int) ≤ 8)))
def althingref04_Rights.f (k : Nat) (l0 : List ByteArray) : Option (Bool) := althingref04_Rights.l0 k l0 0
set_option maxHeartbeats 8000000 in
set_option maxRecDepth 100000 in
theorem althingref04_Rights.calls (k : Nat) (A0 : Option Addr) (c0 : Nat) (l0 : List ByteArray) (r : Bool) (w : World) (hr0 : Kd.C Kd.string w A0 l0.length l0) (hc0 : l0.length ≤ c0) (h : althingref04_Rights.f k l0 = some r) :
 Calls Try.prog 39 #[.slice A0 l0.length c0] w fun e w' => e = .returned (.bool r) ∧ Drawn0 w w' := by
 have HR0 := Aside0.mk hr0
 have HC0 := Aside0.mk hc0
 clear hr0 hc0
 have H : (althingref04_Rights.l0 k l0 0) = some r := h
 clear h
 have H' := Aside0.mk H
 clear H
 go_enter Try.func39, Try.ntmps39
 go_wp2
 repeat (go_quiet (fail); try go_wp2)
 go_loopg [3] k (fun kq v3 w' => ∃ (x3_1 : Int), v3 = .int .i64 x3_1 ∧ Aside0 (althingref04_Rights.l0 kq l0 x3_1 = some r) ∧ Aside0 (kq ≤ k) ∧ Drawn0 w w')
 case atStart => exact ⟨(0), (by first | rfl | (simp; done) | (simp [*]; done)), H', ⟨Nat.le_refl _⟩, by repeat (first | exact Drawn0.refl _ | apply Drawn0.step)⟩
 case round =>
  clear H'
  obtain ⟨x3_1, rfl, HA, HK1, ⟨m1, rfl⟩⟩ := hrel
  cases gk with
  | zero => exact absurd HA.out (by simp [althingref04_Rights.l0])
  | succ k1 =>
   have H := HA.out
   clear HA
   simp only [althingref04_Rights.l0] at H
   by_cases c2 : x3_1 < (l0.length : Int)
   · rw [if_pos c2] at H
     have c2b0 : decide (x3_1 < (l0.length : Int)) = true := decide_eq_true c2
     clear c2
     by_cases c3 : 0 ≤ x3_1
     · rw [if_pos c3] at H
       have c3b0 : decide (0 ≤ x3_1) = true := decide_eq_true c3
       clear c3
       obtain ⟨t469, A4, H⟩ := bs_ H
       by_cases c5 : t469 = true
       · subst c5
         rw [if_pos rfl] at H
         by_cases c6 : x3_1 > 0
         · rw [if_pos c6] at H
           have c6b0 : decide (0 < x3_1) = true := decide_eq_true c6
           clear c6
           obtain ⟨ji7, hji7⟩ : ∃ j_ : Int, (wrap64 (x3_1 - 1)) = j_ := ⟨_, rfl⟩
           replace H : (if 0 ≤ (ji7) then (if (ji7) < (l0.length : Int) then ((althingref04_Before.f k1 (rdOf ByteArray.empty l0 (ji7)) (rdOf ByteArray.empty l0 x3_1)).bind fun t472 => (if t472 = true then (althingref04_Rights.l0 k1 l0 (wrap64 (x3_1 + 1))) else (some false))) else (none)) else (none)) = some r := by first | (rw [hji7] at H; exact H) | (simp only [hji7] at H ⊢; exact H)
           (try rw [hji7] at A4)
           have hji7w : (IntKind.i64.wrap (x3_1 - 1)) = ji7 := (i64_w _).trans hji7
           by_cases c8 : 0 ≤ (ji7)
           · rw [if_pos c8] at H
             have c8b0 : decide (0 ≤ (ji7)) = true := decide_eq_true c8
             clear c8
             by_cases c9 : (ji7) < (l0.length : Int)
             · rw [if_pos c9] at H
               have c9b0 : decide ((ji7) < (l0.length : Int)) = true := decide_eq_true c9
               clear c9
               obtain ⟨t472, A10, H⟩ := bs_ H
               by_cases c11 : t472 = true
               · subst c11
                 rw [if_pos rfl] at H
                 have H' := Aside0.mk H
                 clear H
                 have p468 : 0 ≤ (x3_1 : Int) := of_decide_eq_true (by first | (with_reducible assumption) | assumption)
                 have q468 : x3_1 < (l0.length : Int) := of_decide_eq_true (by first | (with_reducible assumption) | assumption)
                 obtain ⟨ad468, e468, hx468_0⟩ := Kd.at_string HR0.out x3_1 p468 q468
                 cases e468
                 replace p468 := eq_true p468
                 replace q468 := eq_true q468
                 have hq0 := True.intro
                 repeat ((first | clear hq0 | go_quiet (first | (go_at_call 54; (with_reducible refine (althingref04_Right.calls (rdOf ByteArray.empty l0 x3_1) true _ A4.out).mono ?_); rintro e w' ⟨rfl, ⟨nd, rfl⟩⟩; (try first | exact ⟨rfl, _, World.drewN_drewN _ _ _⟩ | exact ⟨rfl, _, Eq.trans (World.drewN_drewN _ _ _) (congrArg (World.drewN _) (Nat.add_assoc _ _ _))⟩); have p470 : 0 ≤ ((ji7) : Int) := of_decide_eq_true (by first | (with_reducible assumption) | assumption); have q470 : (ji7) < (l0.length : Int) := of_decide_eq_true (by first | (with_reducible assumption) | assumption); obtain ⟨ad470, e470, hx470_0⟩ := Kd.at_string HR0.out (ji7) p470 q470; obtain rfl : ad468 = ad470 := (by injection e470); replace p470 := eq_true p470; replace q470 := eq_true q470; have p471 : 0 ≤ (x3_1 : Int) := of_decide_eq_true (by first | (with_reducible assumption) | assumption); have q471 : x3_1 < (l0.length : Int) := of_decide_eq_true (by first | (with_reducible assumption) | assumption); obtain ⟨ad471, e471, hx471_0⟩ := Kd.at_string HR0.out x3_1 p471 q471; obtain rfl : ad468 = ad471 := (by injection e471); replace p471 := eq_true p471; replace q471 := eq_true q471) | (go_at_call 41; (with_reducible refine (althingref04_Before.calls k1 (rdOf ByteArray.empty l0 (ji7)) (rdOf ByteArray.empty l0 x3_1) true _ A10.out).mono ?_); rintro e w' ⟨rfl, ⟨nd, rfl⟩⟩; (try first | exact ⟨rfl, _, World.drewN_drewN _ _ _⟩ | exact ⟨rfl, _, Eq.trans (World.drewN_drewN _ _ _) (congrArg (World.drewN _) (Nat.add_assoc _ _ _))⟩)))); try go_wp2_with (first | (go_at_call 54; (with_reducible refine (althingref04_Right.calls (rdOf ByteArray.empty l0 x3_1) true _ A4.out).mono ?_); rintro e w' ⟨rfl, ⟨nd, rfl⟩⟩; (try first | exact ⟨rfl, _, World.drewN_drewN _ _ _⟩ | exact ⟨rfl, _, Eq.trans (World.drewN_drewN _ _ _) (congrArg (World.drewN _) (Nat.add_assoc _ _ _))⟩); have p470 : 0 ≤ ((ji7) : Int) := of_decide_eq_true (by first | (with_reducible assumption) | assumption); have q470 : (ji7) < (l0.length : Int) := of_decide_eq_true (by first | (with_reducible assumption) | assumption); obtain ⟨ad470, e470, hx470_0⟩ := Kd.at_string HR0.out (ji7) p470 q470; obtain rfl : ad468 = ad470 := (by injection e470); replace p470 := eq_true p470; replace q470 := eq_true q470; have p471 : 0 ≤ (x3_1 : Int) := of_decide_eq_true (by first | (with_reducible assumption) | assumption); have q471 : x3_1 < (l0.length : Int) := of_decide_eq_true (by first | (with_reducible assumption) | assumption); obtain ⟨ad471, e471, hx471_0⟩ := Kd.at_string HR0.out x3_1 p471 q471; obtain rfl : ad468 = ad471 := (by injection e471); replace p471 := eq_true p471; replace q471 := eq_true q471) | (go_at_call 41; (with_reducible refine (althingref04_Before.calls k1 (rdOf ByteArray.empty l0 (ji7)) (rdOf ByteArray.empty l0 x3_1) true _ A10.out).mono ?_); rintro e w' ⟨rfl, ⟨nd, rfl⟩⟩; (try first | exact ⟨rfl, _, World.drewN_drewN _ _ _⟩ | exact ⟨rfl, _, Eq.trans (World.drewN_drewN _ _ _) (congrArg (World.drewN _) (Nat.add_assoc _ _ _))⟩))))
                 go_roundg k1
                 case measure => have := HK1.out; omega
                 case rel => exact ⟨(wrap64 (x3_1 + 1)), (by first | rfl | (simp; done) | (simp [*]; done)), H', ⟨by have := HK1.out; omega⟩, by repeat (first | exact Drawn0.refl _ | apply Drawn0.step)⟩
               · replace c11 := Bool.eq_false_iff.mpr c11
                 subst c11
                 rw [if_neg (show ¬ (false = true) by decide)] at H
                 obtain rfl := Option.some.inj H
                 have p468 : 0 ≤ (x3_1 : Int) := of_decide_eq_true (by first | (with_reducible assumption) | assumption)
                 have q468 : x3_1 < (l0.length : Int) := of_decide_eq_true (by first | (with_reducible assumption) | assumption)
                 obtain ⟨ad468, e468, hx468_0⟩ := Kd.at_string HR0.out x3_1 p468 q468
                 cases e468
                 replace p468 := eq_true p468
                 replace q468 := eq_true q468
                 have hq0 := True.intro
                 repeat ((first | clear hq0 | go_quiet (first | (go_at_call 54; (with_reducible refine (althingref04_Right.calls (rdOf ByteArray.empty l0 x3_1) true _ A4.out).mono ?_); rintro e w' ⟨rfl, ⟨nd, rfl⟩⟩; (try first | exact ⟨rfl, _, World.drewN_drewN _ _ _⟩ | exact ⟨rfl, _, Eq.trans (World.drewN_drewN _ _ _) (congrArg (World.drewN _) (Nat.add_assoc _ _ _))⟩); have p470 : 0 ≤ ((ji7) : Int) := of_decide_eq_true (by first | (with_reducible assumption) | assumption); have q470 : (ji7) < (l0.length : Int) := of_decide_eq_true (by first | (with_reducible assumption) | assumption); obtain ⟨ad470, e470, hx470_0⟩ := Kd.at_string HR0.out (ji7) p470 q470; obtain rfl : ad468 = ad470 := (by injection e470); replace p470 := eq_true p470; replace q470 := eq_true q470; have p471 : 0 ≤ (x3_1 : Int) := of_decide_eq_true (by first | (with_reducible assumption) | assumption); have q471 : x3_1 < (l0.length : Int) := of_decide_eq_true (by first | (with_reducible assumption) | assumption); obtain ⟨ad471, e471, hx471_0⟩ := Kd.at_string HR0.out x3_1 p471 q471; obtain rfl : ad468 = ad471 := (by injection e471); replace p471 := eq_true p471; replace q471 := eq_true q471) | (go_at_call 41; (with_reducible refine (althingref04_Before.calls k1 (rdOf ByteArray.empty l0 (ji7)) (rdOf ByteArray.empty l0 x3_1) false _ A10.out).mono ?_); rintro e w' ⟨rfl, ⟨nd, rfl⟩⟩; (try first | exact ⟨rfl, _, World.drewN_drewN _ _ _⟩ | exact ⟨rfl, _, Eq.trans (World.drewN_drewN _ _ _) (congrArg (World.drewN _) (Nat.add_assoc _ _ _))⟩)))); try go_wp2_with (first | (go_at_call 54; (with_reducible refine (althingref04_Right.calls (rdOf ByteArray.empty l0 x3_1) true _ A4.out).mono ?_); rintro e w' ⟨rfl, ⟨nd, rfl⟩⟩; (try first | exact ⟨rfl, _, World.drewN_drewN _ _ _⟩ | exact ⟨rfl, _, Eq.trans (World.drewN_drewN _ _ _) (congrArg (World.drewN _) (Nat.add_assoc _ _ _))⟩); have p470 : 0 ≤ ((ji7) : Int) := of_decide_eq_true (by first | (with_reducible assumption) | assumption); have q470 : (ji7) < (l0.length : Int) := of_decide_eq_true (by first | (with_reducible assumption) | assumption); obtain ⟨ad470, e470, hx470_0⟩ := Kd.at_string HR0.out (ji7) p470 q470; obtain rfl : ad468 = ad470 := (by injection e470); replace p470 := eq_true p470; replace q470 := eq_true q470; have p471 : 0 ≤ (x3_1 : Int) := of_decide_eq_true (by first | (with_reducible assumption) | assumption); have q471 : x3_1 < (l0.length : Int) := of_decide_eq_true (by first | (with_reducible assumption) | assumption); obtain ⟨ad471, e471, hx471_0⟩ := Kd.at_string HR0.out x3_1 p471 q471; obtain rfl : ad468 = ad471 := (by injection e471); replace p471 := eq_true p471; replace q471 := eq_true q471) | (go_at_call 41; (with_reducible refine (althingref04_Before.calls k1 (rdOf ByteArray.empty l0 (ji7)) (rdOf ByteArray.empty l0 x3_1) false _ A10.out).mono ?_); rintro e w' ⟨rfl, ⟨nd, rfl⟩⟩; (try first | exact ⟨rfl, _, World.drewN_drewN _ _ _⟩ | exact ⟨rfl, _, Eq.trans (World.drewN_drewN _ _ _) (congrArg (World.drewN _) (Nat.add_assoc _ _ _))⟩))))
                 go_ret
                 exact ⟨by first | rfl | (simp; done) | (simp only [← hji7] <;> (first | rfl | (simp; done))) | (simp [*]; done) | (subst_vars; simp only [mx_eq, mn_eq]; done), by repeat (first | exact Drawn0.refl _ | apply Drawn0.step)⟩
             · rw [if_neg c9] at H
               exact absurd H (by simp)
           · rw [if_neg c8] at H
             exact absurd H (by simp)
         · rw [if_neg c6] at H
           have c6b0 : decide (0 < x3_1) = false := decide_eq_false c6
           clear c6
           have H' := Aside0.mk H
           clear H
           have p468 : 0 ≤ (x3_1 : Int) := of_decide_eq_true (by first | (with_reducible assumption) | assumption)
           have q468 : x3_1 < (l0.length : Int) := of_decide_eq_true (by first | (with_reducible assumption) | assumption)
           obtain ⟨ad468, e468, hx468_0⟩ := Kd.at_string HR0.out x3_1 p468 q468
           cases e468
           replace p468 := eq_true p468
           replace q468 := eq_true q468
           have hq0 := True.intro
           repeat ((first | clear hq0 | go_quiet (first | (go_at_call 54; (with_reducible refine (althingref04_Right.calls (rdOf ByteArray.empty l0 x3_1) true _ A4.out).mono ?_); rintro e w' ⟨rfl, ⟨nd, rfl⟩⟩; (try first | exact ⟨rfl, _, World.drewN_drewN _ _ _⟩ | exact ⟨rfl, _, Eq.trans (World.drewN_drewN _ _ _) (congrArg (World.drewN _) (Nat.add_assoc _ _ _))⟩)))); try go_wp2_with (first | (go_at_call 54; (with_reducible refine (althingref04_Right.calls (rdOf ByteArray.empty l0 x3_1) true _ A4.out).mono ?_); rintro e w' ⟨rfl, ⟨nd, rfl⟩⟩; (try first | exact ⟨rfl, _, World.drewN_drewN _ _ _⟩ | exact ⟨rfl, _, Eq.trans (World.drewN_drewN _ _ _) (congrArg (World.drewN _) (Nat.add_assoc _ _ _))⟩))))
           go_roundg k1
           case measure => have := HK1.out; omega
           case rel => exact ⟨(wrap64 (x3_1 + 1)), (by first | rfl | (simp; done) | (simp [*]; done)), H', ⟨by have := HK1.out; omega⟩, by repeat (first | exact Drawn0.refl _ | apply Drawn0.step)⟩
       · replace c5 := Bool.eq_false_iff.mpr c5
         subst c5
         rw [if_neg (show ¬ (false = true) by decide)] at H
         obtain rfl := Option.some.inj H
         have p468 : 0 ≤ (x3_1 : Int) := of_decide_eq_true (by first | (with_reducible assumption) | assumption)
         have q468 : x3_1 < (l0.length : Int) := of_decide_eq_true (by first | (with_reducible assumption) | assumption)
         obtain ⟨ad468, e468, hx468_0⟩ := Kd.at_string HR0.out x3_1 p468 q468
         cases e468
         replace p468 := eq_true p468
         replace q468 := eq_true q468
         have hq0 := True.intro
         repeat ((first | clear hq0 | go_quiet (first | (go_at_call 54; (with_reducible refine (althingref04_Right.calls (rdOf ByteArray.empty l0 x3_1) false _ A4.out).mono ?_); rintro e w' ⟨rfl, ⟨nd, rfl⟩⟩; (try first | exact ⟨rfl, _, World.drewN_drewN _ _ _⟩ | exact ⟨rfl, _, Eq.trans (World.drewN_drewN _ _ _) (congrArg (World.drewN _) (Nat.add_assoc _ _ _))⟩)))); try go_wp2_with (first | (go_at_call 54; (with_reducible refine (althingref04_Right.calls (rdOf ByteArray.empty l0 x3_1) false _ A4.out).mono ?_); rintro e w' ⟨rfl, ⟨nd, rfl⟩⟩; (try first | exact ⟨rfl, _, World.drewN_drewN _ _ _⟩ | exact ⟨rfl, _, Eq.trans (World.drewN_drewN _ _ _) (congrArg (World.drewN _) (Nat.add_assoc _ _ _))⟩))))
         go_ret
         exact ⟨by first | rfl | (simp; done) | (simp [*]; done), by repeat (first | exact Drawn0.refl _ | apply Drawn0.step)⟩
     · rw [if_neg c3] at H
       exact absurd H (by simp)
   · rw [if_neg c2] at H
     have c2b0 : decide (x3_1 < (l0.length : Int)) = false := decide_eq_false c2
     clear c2
     obtain rfl := Option.some.inj H
     go_wp2
     repeat (go_quiet (fail); try go_wp2)
     go_ret
     exact ⟨by first | rfl | (simp; done) | (simp [*]; done), by repeat (first | exact Drawn0.refl _ | apply Drawn0.step)⟩
end Go.Proofs.Ytnjeeedndnfglaa.X
end
