/- The law QuorumFast: a fast quorum and a majority have F replicas in common. -/
import Derived.Test.YthnmccolfckhdaaQuorumIs
namespace Go.Proofs.Ythnmccolfckhdaa
open Go.RowKit
set_option linter.unusedSimpArgs false
set_option linter.unusedVariables false
attribute [local go_sem] max2_int max_two min2_int min_two Ext.cell Ext.frozen Ext.cell_set szlt1 szlt2 szlt3 szlt4 szlt5 szlt6
attribute [local simp] szlt1 szlt2 szlt3 szlt4 szlt5 szlt6

set_option maxHeartbeats 4000000 in
theorem walkQuorumFast (f a b k : Int) (rf : -9223372036854775808 ≤ f ∧ f ≤ 9223372036854775807) (ra : -9223372036854775808 ≤ a ∧ a ≤ 9223372036854775807) (rb : -9223372036854775808 ≤ b ∧ b ≤ 9223372036854775807) (rk : -9223372036854775808 ≤ k ∧ k ≤ 9223372036854775807) (w : World) :
    Calls Try.prog 7 #[.int .i64 f, .int .i64 a, .int .i64 b, .int .i64 k] w fun e w' => e = .returned (.bool true) ∧ Below w.heap.size w w' := by
  obtain ⟨n, hn⟩ : ∃ n : Int, n = ((mem (bits .and .i64 a (allq f)) 7).length : Int) := ⟨_, rfl⟩
  obtain ⟨m, hm⟩ : ∃ n : Int, n = ((mem (bits .and .i64 (bits .and .i64 a (allq f)) (bits .and .i64 b (allq f))) 7).length : Int) := ⟨_, rfl⟩
  obtain ⟨xa, hxa⟩ : ∃ x, x = (decide (0 ≤ k ∧ k < 7) && tb (bits .and .i64 a (allq f)) k.toNat) := ⟨_, rfl⟩
  obtain ⟨xb, hxb⟩ : ∃ x, x = (decide (0 ≤ k ∧ k < 7) && tb (bits .and .i64 b (allq f)) k.toNat) := ⟨_, rfl⟩
  have key : sz f ≠ 0 → fst_ f ≤ n → maj f (bits .and .i64 b (allq f)) → xa = true → xb = false → f ≤ m := by
    intro z1 z2 z3 z4 z5
    have hf := szsl f
    rw [hxa, Bool.and_eq_true, decide_eq_true_eq] at z4
    rw [hxb, decide_eq_true z4.1, Bool.true_and] at z5
    have := fast_pure f a b k (by omega) (by omega) z3 z4.1.1 z4.1.2 z4.2 z5
    omega
  have HN := Lib.hid hn
  have HM := Lib.hid hm
  have HA := Lib.hid hxa
  have HB := Lib.hid hxb
  clear hn hm hxa hxb
  by_cases c1 : sz f = 0
  · have C1 := Lib.hid c1
    clear c1 key
    go_enter Try.func7, Try.ntmps7
    go_wp2_with (first | (go_at_call 27; (first | (with_reducible refine (calls_ext (all_any f _)).mono ?_) | (with_reducible refine (calls_to_ext (all_any f _)).mono ?_)); rintro e w1 ⟨rfl, X, rfl⟩) | (go_at_call 20; (first | (with_reducible refine (calls_ext (Size_is f 0 C1.out.symm _)).mono ?_) | (with_reducible refine (calls_to_ext (Size_is f 0 C1.out.symm _)).mono ?_)); rintro e w1 ⟨rfl, X, rfl⟩) | (go_at_call 28; (first | (with_reducible refine (calls_ext (awake01 _)).mono ?_) | (with_reducible refine (calls_to_ext (awake01 _)).mono ?_)); rintro e w1 ⟨rfl, X, rfl⟩))
    go_ret
    exact ⟨rfl, X.below⟩
  obtain ⟨z, hz⟩ : ∃ z : Int, z = sz f := ⟨_, rfl⟩
  have z0 : (z == 0) = false := beq_eq_false_iff_ne.2 (by omega)
  have HZ := Lib.hid hz
  clear hz
  obtain ⟨q, hq⟩ : ∃ q : Int, q = fst_ f := ⟨_, rfl⟩
  rw [← hq] at key
  have HQ := Lib.hid hq
  clear hq
  by_cases c2 : n < q
  · have d2 : decide (n < q) = true := decide_eq_true c2
    clear key
    go_enter Try.func7, Try.ntmps7
    go_wp2_with (first | (go_at_call 27; (first | (with_reducible refine (calls_ext (all_any f _)).mono ?_) | (with_reducible refine (calls_to_ext (all_any f _)).mono ?_)); rintro e w1 ⟨rfl, X, rfl⟩) | (go_at_call 20; (first | (with_reducible refine (calls_ext (Size_is f z HZ.out _)).mono ?_) | (with_reducible refine (calls_to_ext (Size_is f z HZ.out _)).mono ?_)); rintro e w1 ⟨rfl, X, rfl⟩) | (go_at_call 26; (first | (with_reducible refine (calls_ext (count_is _ n HN.out _)).mono ?_) | (with_reducible refine (calls_to_ext (count_is _ n HN.out _)).mono ?_)); rintro e w1 ⟨rfl, X, rfl⟩) | (go_at_call 22; (first | (with_reducible refine (calls_ext (Fast_is f q HQ.out _)).mono ?_) | (with_reducible refine (calls_to_ext (Fast_is f q HQ.out _)).mono ?_)); rintro e w1 ⟨rfl, X, rfl⟩) | (go_at_call 28; (first | (with_reducible refine (calls_ext (awake01 _)).mono ?_) | (with_reducible refine (calls_to_ext (awake01 _)).mono ?_)); rintro e w1 ⟨rfl, X, rfl⟩))
    go_ret
    exact ⟨rfl, X.below⟩
  have d2 : decide (n < q) = false := decide_eq_false c2
  by_cases c3 : maj f (bits .and .i64 b (allq f))
  case' neg =>
    clear key
    go_enter Try.func7, Try.ntmps7
    go_wp2_with (first | (go_at_call 27; (first | (with_reducible refine (calls_ext (all_any f _)).mono ?_) | (with_reducible refine (calls_to_ext (all_any f _)).mono ?_)); rintro e w1 ⟨rfl, X, rfl⟩) | (go_at_call 20; (first | (with_reducible refine (calls_ext (Size_is f z HZ.out _)).mono ?_) | (with_reducible refine (calls_to_ext (Size_is f z HZ.out _)).mono ?_)); rintro e w1 ⟨rfl, X, rfl⟩) | (go_at_call 26; (first | (with_reducible refine (calls_ext (count_is _ n HN.out _)).mono ?_) | (with_reducible refine (calls_to_ext (count_is _ n HN.out _)).mono ?_)); rintro e w1 ⟨rfl, X, rfl⟩) | (go_at_call 22; (first | (with_reducible refine (calls_ext (Fast_is f q HQ.out _)).mono ?_) | (with_reducible refine (calls_to_ext (Fast_is f q HQ.out _)).mono ?_)); rintro e w1 ⟨rfl, X, rfl⟩) | (go_at_call 29; (first | (with_reducible refine (calls_ext (major_no f (bits .and .i64 b (allq f)) c3 _)).mono ?_) | (with_reducible refine (calls_to_ext (major_no f (bits .and .i64 b (allq f)) c3 _)).mono ?_)); rintro e w1 ⟨rfl, X, rfl⟩) | (go_at_call 28; (first | (with_reducible refine (calls_ext (awake01 _)).mono ?_) | (with_reducible refine (calls_to_ext (awake01 _)).mono ?_)); rintro e w1 ⟨rfl, X, rfl⟩))
    go_ret
    exact ⟨rfl, X.below⟩
  have key2 := key c1 (by omega) c3
  clear key
  cases xa with
  | false =>
    clear key2
    go_enter Try.func7, Try.ntmps7
    go_wp2_with (first | (go_at_call 27; (first | (with_reducible refine (calls_ext (all_any f _)).mono ?_) | (with_reducible refine (calls_to_ext (all_any f _)).mono ?_)); rintro e w1 ⟨rfl, X, rfl⟩) | (go_at_call 20; (first | (with_reducible refine (calls_ext (Size_is f z HZ.out _)).mono ?_) | (with_reducible refine (calls_to_ext (Size_is f z HZ.out _)).mono ?_)); rintro e w1 ⟨rfl, X, rfl⟩) | (go_at_call 26; (first | (with_reducible refine (calls_ext (count_is _ n HN.out _)).mono ?_) | (with_reducible refine (calls_to_ext (count_is _ n HN.out _)).mono ?_)); rintro e w1 ⟨rfl, X, rfl⟩) | (go_at_call 22; (first | (with_reducible refine (calls_ext (Fast_is f q HQ.out _)).mono ?_) | (with_reducible refine (calls_to_ext (Fast_is f q HQ.out _)).mono ?_)); rintro e w1 ⟨rfl, X, rfl⟩) | (go_at_call 29; (first | (with_reducible refine (calls_ext (major_yes f (bits .and .i64 b (allq f)) c3 _)).mono ?_) | (with_reducible refine (calls_to_ext (major_yes f (bits .and .i64 b (allq f)) c3 _)).mono ?_)); rintro e w1 ⟨rfl, X, rfl⟩) | (go_at_call 30; (first | (with_reducible refine (calls_ext (quHas_is (bits .and .i64 a (allq f)) k false HA.out _)).mono ?_) | (with_reducible refine (calls_to_ext (quHas_is (bits .and .i64 a (allq f)) k false HA.out _)).mono ?_)); rintro e w1 ⟨rfl, X, rfl⟩) | (go_at_call 28; (first | (with_reducible refine (calls_ext (awake01 _)).mono ?_) | (with_reducible refine (calls_to_ext (awake01 _)).mono ?_)); rintro e w1 ⟨rfl, X, rfl⟩))
    go_ret
    exact ⟨rfl, X.below⟩
  | true =>
    cases xb with
    | true =>
      clear key2
      go_enter Try.func7, Try.ntmps7
      go_wp2_with (first | (go_at_call 27; (first | (with_reducible refine (calls_ext (all_any f _)).mono ?_) | (with_reducible refine (calls_to_ext (all_any f _)).mono ?_)); rintro e w1 ⟨rfl, X, rfl⟩) | (go_at_call 20; (first | (with_reducible refine (calls_ext (Size_is f z HZ.out _)).mono ?_) | (with_reducible refine (calls_to_ext (Size_is f z HZ.out _)).mono ?_)); rintro e w1 ⟨rfl, X, rfl⟩) | (go_at_call 26; (first | (with_reducible refine (calls_ext (count_is _ n HN.out _)).mono ?_) | (with_reducible refine (calls_to_ext (count_is _ n HN.out _)).mono ?_)); rintro e w1 ⟨rfl, X, rfl⟩) | (go_at_call 22; (first | (with_reducible refine (calls_ext (Fast_is f q HQ.out _)).mono ?_) | (with_reducible refine (calls_to_ext (Fast_is f q HQ.out _)).mono ?_)); rintro e w1 ⟨rfl, X, rfl⟩) | (go_at_call 29; (first | (with_reducible refine (calls_ext (major_yes f (bits .and .i64 b (allq f)) c3 _)).mono ?_) | (with_reducible refine (calls_to_ext (major_yes f (bits .and .i64 b (allq f)) c3 _)).mono ?_)); rintro e w1 ⟨rfl, X, rfl⟩) | (go_at_call 30; (first | (with_reducible refine (calls_ext (quHas_is (bits .and .i64 a (allq f)) k true HA.out _)).mono ?_) | (with_reducible refine (calls_to_ext (quHas_is (bits .and .i64 a (allq f)) k true HA.out _)).mono ?_)); rintro e w1 ⟨rfl, X, rfl⟩) | (go_at_call 30; (first | (with_reducible refine (calls_ext (quHas_is (bits .and .i64 b (allq f)) k true HB.out _)).mono ?_) | (with_reducible refine (calls_to_ext (quHas_is (bits .and .i64 b (allq f)) k true HB.out _)).mono ?_)); rintro e w1 ⟨rfl, X, rfl⟩) | (go_at_call 28; (first | (with_reducible refine (calls_ext (awake01 _)).mono ?_) | (with_reducible refine (calls_to_ext (awake01 _)).mono ?_)); rintro e w1 ⟨rfl, X, rfl⟩))
      go_ret
      exact ⟨rfl, X.below⟩
    | false =>
      have h3 := key2 rfl rfl
      have hd : decide (f ≤ m) = true := decide_eq_true h3
      clear key2
      go_enter Try.func7, Try.ntmps7
      go_wp2_with (first | (go_at_call 27; (first | (with_reducible refine (calls_ext (all_any f _)).mono ?_) | (with_reducible refine (calls_to_ext (all_any f _)).mono ?_)); rintro e w1 ⟨rfl, X, rfl⟩) | (go_at_call 20; (first | (with_reducible refine (calls_ext (Size_is f z HZ.out _)).mono ?_) | (with_reducible refine (calls_to_ext (Size_is f z HZ.out _)).mono ?_)); rintro e w1 ⟨rfl, X, rfl⟩) | (go_at_call 26; (first | (with_reducible refine (calls_ext (count_is (bits .and .i64 a (allq f)) n HN.out _)).mono ?_) | (with_reducible refine (calls_to_ext (count_is (bits .and .i64 a (allq f)) n HN.out _)).mono ?_)); rintro e w1 ⟨rfl, X, rfl⟩) | (go_at_call 26; (first | (with_reducible refine (calls_ext (count_is _ m HM.out _)).mono ?_) | (with_reducible refine (calls_to_ext (count_is _ m HM.out _)).mono ?_)); rintro e w1 ⟨rfl, X, rfl⟩) | (go_at_call 22; (first | (with_reducible refine (calls_ext (Fast_is f q HQ.out _)).mono ?_) | (with_reducible refine (calls_to_ext (Fast_is f q HQ.out _)).mono ?_)); rintro e w1 ⟨rfl, X, rfl⟩) | (go_at_call 29; (first | (with_reducible refine (calls_ext (major_yes f (bits .and .i64 b (allq f)) c3 _)).mono ?_) | (with_reducible refine (calls_to_ext (major_yes f (bits .and .i64 b (allq f)) c3 _)).mono ?_)); rintro e w1 ⟨rfl, X, rfl⟩) | (go_at_call 30; (first | (with_reducible refine (calls_ext (quHas_is (bits .and .i64 a (allq f)) k true HA.out _)).mono ?_) | (with_reducible refine (calls_to_ext (quHas_is (bits .and .i64 a (allq f)) k true HA.out _)).mono ?_)); rintro e w1 ⟨rfl, X, rfl⟩) | (go_at_call 30; (first | (with_reducible refine (calls_ext (quHas_is (bits .and .i64 b (allq f)) k false HB.out _)).mono ?_) | (with_reducible refine (calls_to_ext (quHas_is (bits .and .i64 b (allq f)) k false HB.out _)).mono ?_)); rintro e w1 ⟨rfl, X, rfl⟩) | (go_at_call 28; (first | (with_reducible refine (calls_ext (awake01 _)).mono ?_) | (with_reducible refine (calls_to_ext (awake01 _)).mono ?_)); rintro e w1 ⟨rfl, X, rfl⟩))
      go_ret
      exact ⟨rfl, X.below⟩
end Go.Proofs.Ythnmccolfckhdaa
