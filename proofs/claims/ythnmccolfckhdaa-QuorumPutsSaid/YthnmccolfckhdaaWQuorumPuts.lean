/- The law QuorumPuts: who is put in a set is in it, who is taken out is not, all others are as they were. -/
import Derived.Test.YthnmccolfckhdaaQuorumIs
namespace Go.Proofs.Ythnmccolfckhdaa
open Go.RowKit
set_option linter.unusedSimpArgs false
set_option linter.unusedVariables false
attribute [local go_sem] max2_int max_two min2_int min_two Ext.cell Ext.frozen Ext.cell_set szlt1 szlt2 szlt3 szlt4 szlt5 szlt6
attribute [local simp] szlt1 szlt2 szlt3 szlt4 szlt5 szlt6

set_option maxHeartbeats 4000000 in
theorem walkQuorumPuts (s k j : Int) (rs : -9223372036854775808 ≤ s ∧ s ≤ 9223372036854775807) (rk : -9223372036854775808 ≤ k ∧ k ≤ 9223372036854775807) (rj : -9223372036854775808 ≤ j ∧ j ≤ 9223372036854775807) (w : World) :
    Calls Try.prog 13 #[.int .i64 s, .int .i64 k, .int .i64 j] w fun e w' => e = .returned (.bool true) ∧ Below w.heap.size w w' := by
  have h1 : decide (0 ≤ k ∧ k < 7) = (decide (0 ≤ k ∧ k < 7) && tb (withq s k) k.toNat) := by
    by_cases h : 0 ≤ k ∧ k < 7
    · rw [decide_eq_true h, tb_withq _ _ _ (by omega), decide_eq_true (by omega : ((k.toNat : Nat) : Int) = k), Bool.or_true]; rfl
    · rw [decide_eq_false h]; rfl
  have h2 : false = (decide (0 ≤ k ∧ k < 7) && tb (withoutq s k) k.toNat) := by
    by_cases h : 0 ≤ k ∧ k < 7
    · rw [tb_withoutq _ _ _ (by omega), decide_eq_true (by omega : ((k.toNat : Nat) : Int) = k)]; simp
    · rw [decide_eq_false h]; rfl
  obtain ⟨x, hx⟩ : ∃ x, x = (decide (0 ≤ j ∧ j < 7) && tb s j.toNat) := ⟨_, rfl⟩
  have h3 : j ≠ k → x = (decide (0 ≤ j ∧ j < 7) && tb (withq s k) j.toNat) := by
    intro hjk
    rw [hx]
    by_cases h : 0 ≤ j ∧ j < 7
    · rw [tb_withq _ _ _ (by omega), decide_eq_false (by omega : ¬ ((j.toNat : Nat) : Int) = k), Bool.or_false]
    · rw [decide_eq_false h]; rfl
  have h4 : j ≠ k → x = (decide (0 ≤ j ∧ j < 7) && tb (withoutq s k) j.toNat) := by
    intro hjk
    rw [hx]
    by_cases h : 0 ≤ j ∧ j < 7
    · rw [tb_withoutq _ _ _ (by omega), decide_eq_false (by omega : ¬ ((j.toNat : Nat) : Int) = k), Bool.not_false, Bool.and_true]
    · rw [decide_eq_false h]; rfl
  have H1 := Lib.hid h1
  have H2 := Lib.hid h2
  have H3 := Lib.hid h3
  have H4 := Lib.hid h4
  have HX := Lib.hid hx
  clear h1 h2 h3 h4 hx
  by_cases ck : 0 ≤ k ∧ k < 7
  all_goals
    by_cases cj : j = k
    · have ej : (j == k) = true := beq_iff_eq.2 cj
      clear cj
      first
        | (have c0 : decide (0 ≤ k) = true := decide_eq_true ck.1
           have c6 : decide (k ≤ 6) = true := decide_eq_true (by omega)
           have K1 : Hid (true = decide (0 ≤ k ∧ k < 7)) := Lib.hid (decide_eq_true ck).symm
           clear ck
           go_enter Try.func13, Try.ntmps13
           go_wp2_with (first | (go_at_call 31; (first | (with_reducible refine (calls_ext (qwith_any s k _)).mono ?_) | (with_reducible refine (calls_to_ext (qwith_any s k _)).mono ?_)); rintro e w1 ⟨rfl, X, rfl⟩) | (go_at_call 42; (first | (with_reducible refine (calls_ext (qwithout_any s k _)).mono ?_) | (with_reducible refine (calls_to_ext (qwithout_any s k _)).mono ?_)); rintro e w1 ⟨rfl, X, rfl⟩) | (go_at_call 30; (first | (with_reducible refine (calls_ext (quHas_is (withq s k) k true (K1.out.trans H1.out) _)).mono ?_) | (with_reducible refine (calls_to_ext (quHas_is (withq s k) k true (K1.out.trans H1.out) _)).mono ?_)); rintro e w1 ⟨rfl, X, rfl⟩) | (go_at_call 30; (first | (with_reducible refine (calls_ext (quHas_is (withoutq s k) k false H2.out _)).mono ?_) | (with_reducible refine (calls_to_ext (quHas_is (withoutq s k) k false H2.out _)).mono ?_)); rintro e w1 ⟨rfl, X, rfl⟩) | (go_at_call 28; (first | (with_reducible refine (calls_ext (awake01 _)).mono ?_) | (with_reducible refine (calls_to_ext (awake01 _)).mono ?_)); rintro e w1 ⟨rfl, X, rfl⟩))
           go_ret
           exact ⟨rfl, X.below⟩)
        | (have K1 : Hid (false = decide (0 ≤ k ∧ k < 7)) := Lib.hid (decide_eq_false ck).symm
           by_cases c0 : 0 ≤ k
           · have d0 : decide (0 ≤ k) = true := decide_eq_true c0
             have c6 : decide (k ≤ 6) = false := decide_eq_false (by omega)
             clear ck c0
             go_enter Try.func13, Try.ntmps13
             go_wp2_with (first | (go_at_call 31; (first | (with_reducible refine (calls_ext (qwith_any s k _)).mono ?_) | (with_reducible refine (calls_to_ext (qwith_any s k _)).mono ?_)); rintro e w1 ⟨rfl, X, rfl⟩) | (go_at_call 42; (first | (with_reducible refine (calls_ext (qwithout_any s k _)).mono ?_) | (with_reducible refine (calls_to_ext (qwithout_any s k _)).mono ?_)); rintro e w1 ⟨rfl, X, rfl⟩) | (go_at_call 30; (first | (with_reducible refine (calls_ext (quHas_is (withq s k) k false (K1.out.trans H1.out) _)).mono ?_) | (with_reducible refine (calls_to_ext (quHas_is (withq s k) k false (K1.out.trans H1.out) _)).mono ?_)); rintro e w1 ⟨rfl, X, rfl⟩) | (go_at_call 30; (first | (with_reducible refine (calls_ext (quHas_is (withoutq s k) k false H2.out _)).mono ?_) | (with_reducible refine (calls_to_ext (quHas_is (withoutq s k) k false H2.out _)).mono ?_)); rintro e w1 ⟨rfl, X, rfl⟩) | (go_at_call 28; (first | (with_reducible refine (calls_ext (awake01 _)).mono ?_) | (with_reducible refine (calls_to_ext (awake01 _)).mono ?_)); rintro e w1 ⟨rfl, X, rfl⟩))
             go_ret
             exact ⟨rfl, X.below⟩
           · have d0 : decide (0 ≤ k) = false := decide_eq_false c0
             clear ck c0
             go_enter Try.func13, Try.ntmps13
             go_wp2_with (first | (go_at_call 31; (first | (with_reducible refine (calls_ext (qwith_any s k _)).mono ?_) | (with_reducible refine (calls_to_ext (qwith_any s k _)).mono ?_)); rintro e w1 ⟨rfl, X, rfl⟩) | (go_at_call 42; (first | (with_reducible refine (calls_ext (qwithout_any s k _)).mono ?_) | (with_reducible refine (calls_to_ext (qwithout_any s k _)).mono ?_)); rintro e w1 ⟨rfl, X, rfl⟩) | (go_at_call 30; (first | (with_reducible refine (calls_ext (quHas_is (withq s k) k false (K1.out.trans H1.out) _)).mono ?_) | (with_reducible refine (calls_to_ext (quHas_is (withq s k) k false (K1.out.trans H1.out) _)).mono ?_)); rintro e w1 ⟨rfl, X, rfl⟩) | (go_at_call 30; (first | (with_reducible refine (calls_ext (quHas_is (withoutq s k) k false H2.out _)).mono ?_) | (with_reducible refine (calls_to_ext (quHas_is (withoutq s k) k false H2.out _)).mono ?_)); rintro e w1 ⟨rfl, X, rfl⟩) | (go_at_call 28; (first | (with_reducible refine (calls_ext (awake01 _)).mono ?_) | (with_reducible refine (calls_to_ext (awake01 _)).mono ?_)); rintro e w1 ⟨rfl, X, rfl⟩))
             go_ret
             exact ⟨rfl, X.below⟩)
    · have ej : (j == k) = false := beq_eq_false_iff_ne.2 cj
      have G3 := Lib.hid (H3.out cj)
      have G4 := Lib.hid (H4.out cj)
      clear cj
      first
        | (have c0 : decide (0 ≤ k) = true := decide_eq_true ck.1
           have c6 : decide (k ≤ 6) = true := decide_eq_true (by omega)
           have K1 : Hid (true = decide (0 ≤ k ∧ k < 7)) := Lib.hid (decide_eq_true ck).symm
           clear ck
           go_enter Try.func13, Try.ntmps13
           go_wp2_with (first | (go_at_call 31; (first | (with_reducible refine (calls_ext (qwith_any s k _)).mono ?_) | (with_reducible refine (calls_to_ext (qwith_any s k _)).mono ?_)); rintro e w1 ⟨rfl, X, rfl⟩) | (go_at_call 42; (first | (with_reducible refine (calls_ext (qwithout_any s k _)).mono ?_) | (with_reducible refine (calls_to_ext (qwithout_any s k _)).mono ?_)); rintro e w1 ⟨rfl, X, rfl⟩) | (go_at_call 30; (first | (with_reducible refine (calls_ext (quHas_is (withq s k) k true (K1.out.trans H1.out) _)).mono ?_) | (with_reducible refine (calls_to_ext (quHas_is (withq s k) k true (K1.out.trans H1.out) _)).mono ?_)); rintro e w1 ⟨rfl, X, rfl⟩) | (go_at_call 30; (first | (with_reducible refine (calls_ext (quHas_is (withoutq s k) k false H2.out _)).mono ?_) | (with_reducible refine (calls_to_ext (quHas_is (withoutq s k) k false H2.out _)).mono ?_)); rintro e w1 ⟨rfl, X, rfl⟩) | (go_at_call 30; (first | (with_reducible refine (calls_ext (quHas_is s j x HX.out _)).mono ?_) | (with_reducible refine (calls_to_ext (quHas_is s j x HX.out _)).mono ?_)); rintro e w1 ⟨rfl, X, rfl⟩) | (go_at_call 30; (first | (with_reducible refine (calls_ext (quHas_is (withq s k) j x G3.out _)).mono ?_) | (with_reducible refine (calls_to_ext (quHas_is (withq s k) j x G3.out _)).mono ?_)); rintro e w1 ⟨rfl, X, rfl⟩) | (go_at_call 30; (first | (with_reducible refine (calls_ext (quHas_is (withoutq s k) j x G4.out _)).mono ?_) | (with_reducible refine (calls_to_ext (quHas_is (withoutq s k) j x G4.out _)).mono ?_)); rintro e w1 ⟨rfl, X, rfl⟩) | (go_at_call 28; (first | (with_reducible refine (calls_ext (awake01 _)).mono ?_) | (with_reducible refine (calls_to_ext (awake01 _)).mono ?_)); rintro e w1 ⟨rfl, X, rfl⟩))
           go_ret
           exact ⟨rfl, X.below⟩)
        | (have K1 : Hid (false = decide (0 ≤ k ∧ k < 7)) := Lib.hid (decide_eq_false ck).symm
           by_cases c0 : 0 ≤ k
           · have d0 : decide (0 ≤ k) = true := decide_eq_true c0
             have c6 : decide (k ≤ 6) = false := decide_eq_false (by omega)
             clear ck c0
             go_enter Try.func13, Try.ntmps13
             go_wp2_with (first | (go_at_call 31; (first | (with_reducible refine (calls_ext (qwith_any s k _)).mono ?_) | (with_reducible refine (calls_to_ext (qwith_any s k _)).mono ?_)); rintro e w1 ⟨rfl, X, rfl⟩) | (go_at_call 42; (first | (with_reducible refine (calls_ext (qwithout_any s k _)).mono ?_) | (with_reducible refine (calls_to_ext (qwithout_any s k _)).mono ?_)); rintro e w1 ⟨rfl, X, rfl⟩) | (go_at_call 30; (first | (with_reducible refine (calls_ext (quHas_is (withq s k) k false (K1.out.trans H1.out) _)).mono ?_) | (with_reducible refine (calls_to_ext (quHas_is (withq s k) k false (K1.out.trans H1.out) _)).mono ?_)); rintro e w1 ⟨rfl, X, rfl⟩) | (go_at_call 30; (first | (with_reducible refine (calls_ext (quHas_is (withoutq s k) k false H2.out _)).mono ?_) | (with_reducible refine (calls_to_ext (quHas_is (withoutq s k) k false H2.out _)).mono ?_)); rintro e w1 ⟨rfl, X, rfl⟩) | (go_at_call 30; (first | (with_reducible refine (calls_ext (quHas_is s j x HX.out _)).mono ?_) | (with_reducible refine (calls_to_ext (quHas_is s j x HX.out _)).mono ?_)); rintro e w1 ⟨rfl, X, rfl⟩) | (go_at_call 30; (first | (with_reducible refine (calls_ext (quHas_is (withq s k) j x G3.out _)).mono ?_) | (with_reducible refine (calls_to_ext (quHas_is (withq s k) j x G3.out _)).mono ?_)); rintro e w1 ⟨rfl, X, rfl⟩) | (go_at_call 30; (first | (with_reducible refine (calls_ext (quHas_is (withoutq s k) j x G4.out _)).mono ?_) | (with_reducible refine (calls_to_ext (quHas_is (withoutq s k) j x G4.out _)).mono ?_)); rintro e w1 ⟨rfl, X, rfl⟩) | (go_at_call 28; (first | (with_reducible refine (calls_ext (awake01 _)).mono ?_) | (with_reducible refine (calls_to_ext (awake01 _)).mono ?_)); rintro e w1 ⟨rfl, X, rfl⟩))
             go_ret
             exact ⟨rfl, X.below⟩
           · have d0 : decide (0 ≤ k) = false := decide_eq_false c0
             clear ck c0
             go_enter Try.func13, Try.ntmps13
             go_wp2_with (first | (go_at_call 31; (first | (with_reducible refine (calls_ext (qwith_any s k _)).mono ?_) | (with_reducible refine (calls_to_ext (qwith_any s k _)).mono ?_)); rintro e w1 ⟨rfl, X, rfl⟩) | (go_at_call 42; (first | (with_reducible refine (calls_ext (qwithout_any s k _)).mono ?_) | (with_reducible refine (calls_to_ext (qwithout_any s k _)).mono ?_)); rintro e w1 ⟨rfl, X, rfl⟩) | (go_at_call 30; (first | (with_reducible refine (calls_ext (quHas_is (withq s k) k false (K1.out.trans H1.out) _)).mono ?_) | (with_reducible refine (calls_to_ext (quHas_is (withq s k) k false (K1.out.trans H1.out) _)).mono ?_)); rintro e w1 ⟨rfl, X, rfl⟩) | (go_at_call 30; (first | (with_reducible refine (calls_ext (quHas_is (withoutq s k) k false H2.out _)).mono ?_) | (with_reducible refine (calls_to_ext (quHas_is (withoutq s k) k false H2.out _)).mono ?_)); rintro e w1 ⟨rfl, X, rfl⟩) | (go_at_call 30; (first | (with_reducible refine (calls_ext (quHas_is s j x HX.out _)).mono ?_) | (with_reducible refine (calls_to_ext (quHas_is s j x HX.out _)).mono ?_)); rintro e w1 ⟨rfl, X, rfl⟩) | (go_at_call 30; (first | (with_reducible refine (calls_ext (quHas_is (withq s k) j x G3.out _)).mono ?_) | (with_reducible refine (calls_to_ext (quHas_is (withq s k) j x G3.out _)).mono ?_)); rintro e w1 ⟨rfl, X, rfl⟩) | (go_at_call 30; (first | (with_reducible refine (calls_ext (quHas_is (withoutq s k) j x G4.out _)).mono ?_) | (with_reducible refine (calls_to_ext (quHas_is (withoutq s k) j x G4.out _)).mono ?_)); rintro e w1 ⟨rfl, X, rfl⟩) | (go_at_call 28; (first | (with_reducible refine (calls_ext (awake01 _)).mono ?_) | (with_reducible refine (calls_to_ext (awake01 _)).mono ?_)); rintro e w1 ⟨rfl, X, rfl⟩))
             go_ret
             exact ⟨rfl, X.below⟩)
end Go.Proofs.Ythnmccolfckhdaa
