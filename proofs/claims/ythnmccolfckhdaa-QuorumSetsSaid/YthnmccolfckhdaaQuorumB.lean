/- Count, With, Without, All, Major of package quorum; what the laws of layer 1 ask of them at one point. -/
import Derived.Test.YthnmccolfckhdaaQuorum
namespace Go.Proofs.Ythnmccolfckhdaa
open Go.RowKit
set_option linter.unusedSimpArgs false
set_option linter.unusedVariables false
attribute [local go_sem] max2_int max_two min2_int min_two Ext.cell Ext.frozen Ext.cell_set szlt1 szlt2 szlt3 szlt4 szlt5 szlt6
attribute [local simp] szlt1 szlt2 szlt3 szlt4 szlt5 szlt6

set_option maxHeartbeats 1000000 in
theorem count_any (s : Int) (w : World) :
    Calls Try.prog 26 #[.int .i64 s] w fun e w' => e = .returned (.int .i64 ((mem s 7).length : Int)) ∧ Below w.heap.size w w' := by
  go_enter Try.func26, Try.ntmps26
  go_wp2_with (go_at_call 32; refine (members_any _ _).mono ?_; rintro e w1 ⟨v, rfl, hown, hb⟩; obtain ⟨A, c, rfl⟩ : ∃ A c, v = .slice A (mem s 7).length c := (by rcases hown.2 with ⟨rfl, h0⟩ | ⟨g, cap, cur, rfl, _⟩; exact ⟨none, 0, (by rw [h0])⟩; exact ⟨_, _, rfl⟩); clear hown; have HB := Lib.hid hb; clear hb)
  go_ret
  exact ⟨rfl, HB.out⟩

set_option maxHeartbeats 1000000 in
theorem quWith_any (s k : Int) (v : Value) (hv : v = .int .i64 (if 0 ≤ k ∧ k < 7 then bits .or .i64 s (2 ^ k.toNat) else s)) (w : World) :
    Calls Try.prog 31 #[.int .i64 s, .int .i64 k] w fun e w' => e = .returned v ∧ Below w.heap.size w w' := by
  have HV := Lib.hid hv
  clear hv
  rcases k_cases k with rfl | rfl | rfl | rfl | rfl | rfl | rfl | hk
  case' inr.inr.inr.inr.inr.inr.inr =>
    go_enter Try.func31, Try.ntmps31
    go_wp2_with (refine (quIs_is _ false (by simp; omega) _).mono ?_; rintro e w1 ⟨rfl, hb⟩)
    go_ret
    exact ⟨by rw [HV.out, if_neg hk]; rfl, hb⟩
  all_goals
    go_enter Try.func31, Try.ntmps31
    go_wp2_with (refine (quIs_is _ true (by simp) _).mono ?_; rintro e w1 ⟨rfl, hb⟩)
    go_ret
    exact ⟨by rw [HV.out, if_pos (by omega)]; rfl, hb⟩

set_option maxHeartbeats 1000000 in
theorem quWithout_any (s k : Int) (v : Value) (hv : v = .int .i64 (if 0 ≤ k ∧ k < 7 then bits .andNot .i64 s (2 ^ k.toNat) else s)) (w : World) :
    Calls Try.prog 42 #[.int .i64 s, .int .i64 k] w fun e w' => e = .returned v ∧ Below w.heap.size w w' := by
  have HV := Lib.hid hv
  clear hv
  rcases k_cases k with rfl | rfl | rfl | rfl | rfl | rfl | rfl | hk
  case' inr.inr.inr.inr.inr.inr.inr =>
    go_enter Try.func42, Try.ntmps42
    go_wp2_with (refine (quIs_is _ false (by simp; omega) _).mono ?_; rintro e w1 ⟨rfl, hb⟩)
    go_ret
    exact ⟨by rw [HV.out, if_neg hk]; rfl, hb⟩
  all_goals
    go_enter Try.func42, Try.ntmps42
    go_wp2_with (refine (quIs_is _ true (by simp) _).mono ?_; rintro e w1 ⟨rfl, hb⟩)
    go_ret
    exact ⟨by rw [HV.out, if_pos (by omega)]; rfl, hb⟩

set_option maxHeartbeats 1000000 in
theorem all_any (f : Int) (w : World) :
    Calls Try.prog 27 #[.int .i64 f] w fun e w' => e = .returned (.int .i64 (allq f)) ∧ Below w.heap.size w w' := by
  rcases f_cases f with rfl | rfl | rfl | ⟨h1, h2, h3⟩
  case' inr.inr.inr =>
    have e0 : sz f = 0 := by simp [sz, h1, h2, h3]
    have e1 : allq f = 0 := by simp [allq, h1, h2, h3]
    have E1 := Lib.hid e1
    clear e1
  all_goals
    go_enter Try.func27, Try.ntmps27
    go_wp2_with (refine (Size_any _ _).mono ?_; rintro e w1 ⟨rfl, hb⟩; (first | rw [e0] | simp only [sz]); simp only [if_true, if_false, show ¬ (2 : Int) = 1 by decide, show ¬ (3 : Int) = 1 by decide, show ¬ (3 : Int) = 2 by decide])
    go_ret
    first
      | exact ⟨ret_int (by rw [E1.out]), hb⟩
      | exact ⟨by simp [allq], hb⟩

theorem Size_is (f x : Int) (hx : x = sz f) (w : World) : Calls Try.prog 20 #[.int .i64 f] w fun e w' => e = .returned (.int .i64 x) ∧ Below w.heap.size w w' := by subst hx; exact Size_any f w
theorem Slow_is (f x : Int) (hx : x = slw f) (w : World) : Calls Try.prog 21 #[.int .i64 f] w fun e w' => e = .returned (.int .i64 x) ∧ Below w.heap.size w w' := by subst hx; exact Slow_any f w
theorem Fast_is (f x : Int) (hx : x = fst_ f) (w : World) : Calls Try.prog 22 #[.int .i64 f] w fun e w' => e = .returned (.int .i64 x) ∧ Below w.heap.size w w' := by subst hx; exact Fast_any f w
theorem all_is (f x : Int) (hx : x = allq f) (w : World) : Calls Try.prog 27 #[.int .i64 f] w fun e w' => e = .returned (.int .i64 x) ∧ Below w.heap.size w w' := by subst hx; exact all_any f w
theorem count_is (s x : Int) (hx : x = (mem s 7).length) (w : World) : Calls Try.prog 26 #[.int .i64 s] w fun e w' => e = .returned (.int .i64 x) ∧ Below w.heap.size w w' := by subst hx; exact count_any s w
set_option maxHeartbeats 1000000 in
theorem major_is (f s : Int) (x : Bool) (hx : x = decide (0 < slw f ∧ slw f ≤ (mem (bits .and .i64 s (allq f)) 7).length)) (w : World) :
    Calls Try.prog 29 #[.int .i64 f, .int .i64 s] w fun e w' => e = .returned (.bool x) ∧ Below w.heap.size w w' := by
  have H := Lib.hid hx
  clear hx
  rcases f_cases f with rfl | rfl | rfl | ⟨h1, h2, h3⟩
  case' inr.inr.inr =>
    have e1 : 0 = slw f := by simp [slw, h1, h2, h3]
    have E1 := Lib.hid e1
    clear e1
    go_enter Try.func29, Try.ntmps29
    go_wp2_with (go_at_call 21; (first | (with_reducible refine (calls_ext (Slow_is _ 0 E1.out _)).mono ?_) | (with_reducible refine (calls_to_ext (Slow_is _ 0 E1.out _)).mono ?_)); rintro e w1 ⟨rfl, X, rfl⟩)
    go_ret
    exact ⟨ret_bool (by rw [H.out, ← E1.out]; simp), X.below⟩
  · go_enter Try.func29, Try.ntmps29
    go_wp2_with (first | (go_at_call 21; (first | (with_reducible refine (calls_ext (Slow_is _ 2 (by simp [slw]) _)).mono ?_) | (with_reducible refine (calls_to_ext (Slow_is _ 2 (by simp [slw]) _)).mono ?_)); rintro e w1 ⟨rfl, X, rfl⟩) | (go_at_call 27; (first | (with_reducible refine (calls_ext (all_is _ 7 (by simp [allq]) _)).mono ?_) | (with_reducible refine (calls_to_ext (all_is _ 7 (by simp [allq]) _)).mono ?_)); rintro e w1 ⟨rfl, X, rfl⟩) | (go_at_call 26; (first | (with_reducible refine (calls_ext (count_any _ _)).mono ?_) | (with_reducible refine (calls_to_ext (count_any _ _)).mono ?_)); rintro e w1 ⟨rfl, X, rfl⟩))
    go_ret
    exact ⟨ret_bool (by rw [H.out]; simp [slw, allq]), X.below⟩
  · go_enter Try.func29, Try.ntmps29
    go_wp2_with (first | (go_at_call 21; (first | (with_reducible refine (calls_ext (Slow_is _ 3 (by simp [slw]) _)).mono ?_) | (with_reducible refine (calls_to_ext (Slow_is _ 3 (by simp [slw]) _)).mono ?_)); rintro e w1 ⟨rfl, X, rfl⟩) | (go_at_call 27; (first | (with_reducible refine (calls_ext (all_is _ 31 (by simp [allq]) _)).mono ?_) | (with_reducible refine (calls_to_ext (all_is _ 31 (by simp [allq]) _)).mono ?_)); rintro e w1 ⟨rfl, X, rfl⟩) | (go_at_call 26; (first | (with_reducible refine (calls_ext (count_any _ _)).mono ?_) | (with_reducible refine (calls_to_ext (count_any _ _)).mono ?_)); rintro e w1 ⟨rfl, X, rfl⟩))
    go_ret
    exact ⟨ret_bool (by rw [H.out]; simp [slw, allq]), X.below⟩
  · go_enter Try.func29, Try.ntmps29
    go_wp2_with (first | (go_at_call 21; (first | (with_reducible refine (calls_ext (Slow_is _ 4 (by simp [slw]) _)).mono ?_) | (with_reducible refine (calls_to_ext (Slow_is _ 4 (by simp [slw]) _)).mono ?_)); rintro e w1 ⟨rfl, X, rfl⟩) | (go_at_call 27; (first | (with_reducible refine (calls_ext (all_is _ 127 (by simp [allq]) _)).mono ?_) | (with_reducible refine (calls_to_ext (all_is _ 127 (by simp [allq]) _)).mono ?_)); rintro e w1 ⟨rfl, X, rfl⟩) | (go_at_call 26; (first | (with_reducible refine (calls_ext (count_any _ _)).mono ?_) | (with_reducible refine (calls_to_ext (count_any _ _)).mono ?_)); rintro e w1 ⟨rfl, X, rfl⟩))
    go_ret
    exact ⟨ret_bool (by rw [H.out]; simp [slw, allq]), X.below⟩
set_option maxHeartbeats 1000000 in
theorem awake01 (w : World) : Calls Try.prog 28 #[] w fun e w' => e = .returned (.bool true) ∧ Below w.heap.size w w' := by
  go_enter Try.func28, Try.ntmps28
  go_wp2_with (first | (go_at_call 20; (first | (with_reducible refine (calls_ext (Size_is _ 5 (by simp [sz]) _)).mono ?_) | (with_reducible refine (calls_to_ext (Size_is _ 5 (by simp [sz]) _)).mono ?_)); rintro e w1 ⟨rfl, X, rfl⟩) | (go_at_call 21; (first | (with_reducible refine (calls_ext (Slow_is _ 3 (by simp [slw]) _)).mono ?_) | (with_reducible refine (calls_to_ext (Slow_is _ 3 (by simp [slw]) _)).mono ?_)); rintro e w1 ⟨rfl, X, rfl⟩) | (go_at_call 22; (first | (with_reducible refine (calls_ext (Fast_is _ 4 (by simp [fst_]) _)).mono ?_) | (with_reducible refine (calls_to_ext (Fast_is _ 4 (by simp [fst_]) _)).mono ?_)); rintro e w1 ⟨rfl, X, rfl⟩) | (go_at_call 30; (first | (with_reducible refine (calls_ext (quHas_is _ _ true (by decide) _)).mono ?_) | (with_reducible refine (calls_to_ext (quHas_is _ _ true (by decide) _)).mono ?_)); rintro e w1 ⟨rfl, X, rfl⟩) | (go_at_call 26; (first | (with_reducible refine (calls_ext (count_is _ 3 (by decide) _)).mono ?_) | (with_reducible refine (calls_to_ext (count_is _ 3 (by decide) _)).mono ?_)); rintro e w1 ⟨rfl, X, rfl⟩))
  go_ret
  exact ⟨rfl, X.below⟩

end Go.Proofs.Ythnmccolfckhdaa
