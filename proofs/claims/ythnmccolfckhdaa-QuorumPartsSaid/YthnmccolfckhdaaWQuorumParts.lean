/- The law QuorumParts: a set and what is not of it are all, and have none in common; not both are majorities. -/
import Derived.Test.YthnmccolfckhdaaQuorumIs
namespace Go.Proofs.Ythnmccolfckhdaa
open Go.RowKit
set_option linter.unusedSimpArgs false
set_option linter.unusedVariables false
attribute [local go_sem] max2_int max_two min2_int min_two Ext.cell Ext.frozen Ext.cell_set szlt1 szlt2 szlt3 szlt4 szlt5 szlt6
attribute [local simp] szlt1 szlt2 szlt3 szlt4 szlt5 szlt6

set_option maxHeartbeats 4000000 in
theorem walkQuorumParts (f s : Int) (rf : -9223372036854775808 ≤ f ∧ f ≤ 9223372036854775807) (rs : -9223372036854775808 ≤ s ∧ s ≤ 9223372036854775807) (w : World) :
    Calls Try.prog 8 #[.int .i64 f, .int .i64 s] w fun e w' => e = .returned (.bool true) ∧ Below w.heap.size w w' := by
  obtain ⟨n, hn⟩ : ∃ n : Int, n = ((mem (bits .and .i64 s (allq f)) 7).length : Int) := ⟨_, rfl⟩
  obtain ⟨m, hm⟩ : ∃ n : Int, n = ((mem (bits .andNot .i64 (allq f) s) 7).length : Int) := ⟨_, rfl⟩
  have h0 : (0 : Int) = ((mem (bits .and .i64 (bits .and .i64 s (allq f)) (bits .andNot .i64 (allq f) s)) 7).length : Int) := by rw [parts_none]; rfl
  have hs := parts_count f s
  have hz := szsl f
  have mA : maj f (bits .and .i64 s (allq f)) ↔ 0 < slw f ∧ slw f ≤ n := by rw [hn]; unfold maj; rw [idem]
  have mB : maj f (bits .andNot .i64 (allq f) s) ↔ 0 < slw f ∧ slw f ≤ m := by rw [hm]; unfold maj; rw [idemN]
  obtain ⟨z, hzz⟩ : ∃ z : Int, z = sz f := ⟨_, rfl⟩
  have hn7 : 0 ≤ n ∧ n ≤ 7 := by have := mem_le (bits .and .i64 s (allq f)) 7; omega
  have hm7 : 0 ≤ m ∧ m ≤ 7 := by have := mem_le (bits .andNot .i64 (allq f) s) 7; omega
  have e1 : (n + m != z) = false := by rw [bne_eq_false_iff_eq]; omega
  have H0 := Lib.hid h0
  have HN := Lib.hid hn
  have HM := Lib.hid hm
  have HZ := Lib.hid hzz
  by_cases c0 : z = 0
  · have na : ¬ maj f (bits .and .i64 s (allq f)) := by rw [mA]; omega
    have e0 : (z == 0) = true := by simp [c0]
    clear h0 hs hz mA mB hn hm hzz c0
    go_enter Try.func8, Try.ntmps8
    go_wp2_with (first | (go_at_call 27; (first | (with_reducible refine (calls_ext (all_any f _)).mono ?_) | (with_reducible refine (calls_to_ext (all_any f _)).mono ?_)); rintro e w1 ⟨rfl, X, rfl⟩) | (go_at_call 20; (first | (with_reducible refine (calls_ext (Size_is f z HZ.out _)).mono ?_) | (with_reducible refine (calls_to_ext (Size_is f z HZ.out _)).mono ?_)); rintro e w1 ⟨rfl, X, rfl⟩) | (go_at_call 26; (first | (with_reducible refine (calls_ext (count_is _ 0 H0.out _)).mono ?_) | (with_reducible refine (calls_to_ext (count_is _ 0 H0.out _)).mono ?_)); rintro e w1 ⟨rfl, X, rfl⟩) | (go_at_call 26; (first | (with_reducible refine (calls_ext (count_is (bits .and .i64 s (allq f)) n HN.out _)).mono ?_) | (with_reducible refine (calls_to_ext (count_is (bits .and .i64 s (allq f)) n HN.out _)).mono ?_)); rintro e w1 ⟨rfl, X, rfl⟩) | (go_at_call 26; (first | (with_reducible refine (calls_ext (count_is (bits .andNot .i64 (allq f) s) m HM.out _)).mono ?_) | (with_reducible refine (calls_to_ext (count_is (bits .andNot .i64 (allq f) s) m HM.out _)).mono ?_)); rintro e w1 ⟨rfl, X, rfl⟩) | (go_at_call 29; (first | (with_reducible refine (calls_ext (major_no f (bits .and .i64 s (allq f)) na _)).mono ?_) | (with_reducible refine (calls_to_ext (major_no f (bits .and .i64 s (allq f)) na _)).mono ?_)); rintro e w1 ⟨rfl, X, rfl⟩) | (go_at_call 28; (first | (with_reducible refine (calls_ext (awake01 _)).mono ?_) | (with_reducible refine (calls_to_ext (awake01 _)).mono ?_)); rintro e w1 ⟨rfl, X, rfl⟩))
    go_ret
    exact ⟨rfl, X.below⟩
  have e0 : (z == 0) = false := by simp [c0]
  by_cases c1 : maj f (bits .and .i64 s (allq f))
  · have nb : ¬ maj f (bits .andNot .i64 (allq f) s) := by rw [mB]; rw [mA] at c1; omega
    clear h0 hs hz mA mB hn hm hzz c0
    go_enter Try.func8, Try.ntmps8
    go_wp2_with (first | (go_at_call 27; (first | (with_reducible refine (calls_ext (all_any f _)).mono ?_) | (with_reducible refine (calls_to_ext (all_any f _)).mono ?_)); rintro e w1 ⟨rfl, X, rfl⟩) | (go_at_call 20; (first | (with_reducible refine (calls_ext (Size_is f z HZ.out _)).mono ?_) | (with_reducible refine (calls_to_ext (Size_is f z HZ.out _)).mono ?_)); rintro e w1 ⟨rfl, X, rfl⟩) | (go_at_call 26; (first | (with_reducible refine (calls_ext (count_is _ 0 H0.out _)).mono ?_) | (with_reducible refine (calls_to_ext (count_is _ 0 H0.out _)).mono ?_)); rintro e w1 ⟨rfl, X, rfl⟩) | (go_at_call 26; (first | (with_reducible refine (calls_ext (count_is (bits .and .i64 s (allq f)) n HN.out _)).mono ?_) | (with_reducible refine (calls_to_ext (count_is (bits .and .i64 s (allq f)) n HN.out _)).mono ?_)); rintro e w1 ⟨rfl, X, rfl⟩) | (go_at_call 26; (first | (with_reducible refine (calls_ext (count_is (bits .andNot .i64 (allq f) s) m HM.out _)).mono ?_) | (with_reducible refine (calls_to_ext (count_is (bits .andNot .i64 (allq f) s) m HM.out _)).mono ?_)); rintro e w1 ⟨rfl, X, rfl⟩) | (go_at_call 29; (first | (with_reducible refine (calls_ext (major_yes f (bits .and .i64 s (allq f)) c1 _)).mono ?_) | (with_reducible refine (calls_to_ext (major_yes f (bits .and .i64 s (allq f)) c1 _)).mono ?_)); rintro e w1 ⟨rfl, X, rfl⟩) | (go_at_call 29; (first | (with_reducible refine (calls_ext (major_no f (bits .andNot .i64 (allq f) s) nb _)).mono ?_) | (with_reducible refine (calls_to_ext (major_no f (bits .andNot .i64 (allq f) s) nb _)).mono ?_)); rintro e w1 ⟨rfl, X, rfl⟩) | (go_at_call 28; (first | (with_reducible refine (calls_ext (awake01 _)).mono ?_) | (with_reducible refine (calls_to_ext (awake01 _)).mono ?_)); rintro e w1 ⟨rfl, X, rfl⟩))
    go_ret
    exact ⟨rfl, X.below⟩
  · have yb : maj f (bits .andNot .i64 (allq f) s) := by rw [mB]; rw [mA] at c1; omega
    clear h0 hs hz mA mB hn hm hzz c0
    go_enter Try.func8, Try.ntmps8
    go_wp2_with (first | (go_at_call 27; (first | (with_reducible refine (calls_ext (all_any f _)).mono ?_) | (with_reducible refine (calls_to_ext (all_any f _)).mono ?_)); rintro e w1 ⟨rfl, X, rfl⟩) | (go_at_call 20; (first | (with_reducible refine (calls_ext (Size_is f z HZ.out _)).mono ?_) | (with_reducible refine (calls_to_ext (Size_is f z HZ.out _)).mono ?_)); rintro e w1 ⟨rfl, X, rfl⟩) | (go_at_call 26; (first | (with_reducible refine (calls_ext (count_is _ 0 H0.out _)).mono ?_) | (with_reducible refine (calls_to_ext (count_is _ 0 H0.out _)).mono ?_)); rintro e w1 ⟨rfl, X, rfl⟩) | (go_at_call 26; (first | (with_reducible refine (calls_ext (count_is (bits .and .i64 s (allq f)) n HN.out _)).mono ?_) | (with_reducible refine (calls_to_ext (count_is (bits .and .i64 s (allq f)) n HN.out _)).mono ?_)); rintro e w1 ⟨rfl, X, rfl⟩) | (go_at_call 26; (first | (with_reducible refine (calls_ext (count_is (bits .andNot .i64 (allq f) s) m HM.out _)).mono ?_) | (with_reducible refine (calls_to_ext (count_is (bits .andNot .i64 (allq f) s) m HM.out _)).mono ?_)); rintro e w1 ⟨rfl, X, rfl⟩) | (go_at_call 29; (first | (with_reducible refine (calls_ext (major_no f (bits .and .i64 s (allq f)) c1 _)).mono ?_) | (with_reducible refine (calls_to_ext (major_no f (bits .and .i64 s (allq f)) c1 _)).mono ?_)); rintro e w1 ⟨rfl, X, rfl⟩) | (go_at_call 29; (first | (with_reducible refine (calls_ext (major_yes f (bits .andNot .i64 (allq f) s) yb _)).mono ?_) | (with_reducible refine (calls_to_ext (major_yes f (bits .andNot .i64 (allq f) s) yb _)).mono ?_)); rintro e w1 ⟨rfl, X, rfl⟩) | (go_at_call 28; (first | (with_reducible refine (calls_ext (awake01 _)).mono ?_) | (with_reducible refine (calls_to_ext (awake01 _)).mono ?_)); rintro e w1 ⟨rfl, X, rfl⟩))
    go_ret
    exact ⟨rfl, X.below⟩
end Go.Proofs.Ythnmccolfckhdaa
