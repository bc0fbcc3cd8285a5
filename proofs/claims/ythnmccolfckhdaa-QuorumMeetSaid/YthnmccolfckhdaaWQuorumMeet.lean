/- The law QuorumMeet: two majorities of a shard have a replica in common. -/
import Derived.Test.YthnmccolfckhdaaQuorumIs
namespace Go.Proofs.Ythnmccolfckhdaa
open Go.RowKit
set_option linter.unusedSimpArgs false
set_option linter.unusedVariables false
attribute [local go_sem] max2_int max_two min2_int min_two Ext.cell Ext.frozen Ext.cell_set szlt1 szlt2 szlt3 szlt4 szlt5 szlt6
attribute [local simp] szlt1 szlt2 szlt3 szlt4 szlt5 szlt6

set_option maxHeartbeats 4000000 in
theorem walkQuorumMeet (f a b : Int) (rf : -9223372036854775808 ≤ f ∧ f ≤ 9223372036854775807) (ra : -9223372036854775808 ≤ a ∧ a ≤ 9223372036854775807) (rb : -9223372036854775808 ≤ b ∧ b ≤ 9223372036854775807) (w : World) :
    Calls Try.prog 6 #[.int .i64 f, .int .i64 a, .int .i64 b] w fun e w' => e = .returned (.bool true) ∧ Below w.heap.size w w' := by
  by_cases h1 : maj f a
  · by_cases h2 : maj f b
    · obtain ⟨n, hn⟩ : ∃ n : Int, n = ((mem (bits .and .i64 (bits .and .i64 a b) (allq f)) 7).length : Int) := ⟨_, rfl⟩
      have h3 : 1 ≤ n := by have := meet_pure f a b h1 h2; omega
      have hd : decide (1 ≤ n) = true := decide_eq_true h3
      have HN := Lib.hid hn
      clear hn
      go_enter Try.func6, Try.ntmps6
      go_wp2_with (first | (go_at_call 29; (first | (with_reducible refine (calls_ext (major_yes f a h1 _)).mono ?_) | (with_reducible refine (calls_to_ext (major_yes f a h1 _)).mono ?_)); rintro e w1 ⟨rfl, X, rfl⟩) | (go_at_call 29; (first | (with_reducible refine (calls_ext (major_yes f b h2 _)).mono ?_) | (with_reducible refine (calls_to_ext (major_yes f b h2 _)).mono ?_)); rintro e w1 ⟨rfl, X, rfl⟩) | (go_at_call 27; (first | (with_reducible refine (calls_ext (all_any f _)).mono ?_) | (with_reducible refine (calls_to_ext (all_any f _)).mono ?_)); rintro e w1 ⟨rfl, X, rfl⟩) | (go_at_call 26; (first | (with_reducible refine (calls_ext (count_is _ n HN.out _)).mono ?_) | (with_reducible refine (calls_to_ext (count_is _ n HN.out _)).mono ?_)); rintro e w1 ⟨rfl, X, rfl⟩) | (go_at_call 28; (first | (with_reducible refine (calls_ext (awake01 _)).mono ?_) | (with_reducible refine (calls_to_ext (awake01 _)).mono ?_)); rintro e w1 ⟨rfl, X, rfl⟩))
      go_ret
      exact ⟨rfl, X.below⟩
    · go_enter Try.func6, Try.ntmps6
      go_wp2_with (first | (go_at_call 29; (first | (with_reducible refine (calls_ext (major_yes f a h1 _)).mono ?_) | (with_reducible refine (calls_to_ext (major_yes f a h1 _)).mono ?_)); rintro e w1 ⟨rfl, X, rfl⟩) | (go_at_call 29; (first | (with_reducible refine (calls_ext (major_no f b h2 _)).mono ?_) | (with_reducible refine (calls_to_ext (major_no f b h2 _)).mono ?_)); rintro e w1 ⟨rfl, X, rfl⟩) | (go_at_call 28; (first | (with_reducible refine (calls_ext (awake01 _)).mono ?_) | (with_reducible refine (calls_to_ext (awake01 _)).mono ?_)); rintro e w1 ⟨rfl, X, rfl⟩))
      go_ret
      exact ⟨rfl, X.below⟩
  · go_enter Try.func6, Try.ntmps6
    go_wp2_with (first | (go_at_call 29; (first | (with_reducible refine (calls_ext (major_no f a h1 _)).mono ?_) | (with_reducible refine (calls_to_ext (major_no f a h1 _)).mono ?_)); rintro e w1 ⟨rfl, X, rfl⟩) | (go_at_call 28; (first | (with_reducible refine (calls_ext (awake01 _)).mono ?_) | (with_reducible refine (calls_to_ext (awake01 _)).mono ?_)); rintro e w1 ⟨rfl, X, rfl⟩))
    go_ret
    exact ⟨rfl, X.below⟩
end Go.Proofs.Ythnmccolfckhdaa
