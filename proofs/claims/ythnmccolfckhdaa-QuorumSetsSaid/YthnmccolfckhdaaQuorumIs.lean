/- The contracts of package quorum with a given answer. -/
import Derived.Test.YthnmccolfckhdaaQuorumB
import Derived.Test.YthnmccolfckhdaaQuorumP
namespace Go.Proofs.Ythnmccolfckhdaa
open Go.RowKit
set_option linter.unusedSimpArgs false
set_option linter.unusedVariables false
attribute [local go_sem] max2_int max_two min2_int min_two Ext.cell Ext.frozen Ext.cell_set szlt1 szlt2 szlt3 szlt4 szlt5 szlt6
attribute [local simp] szlt1 szlt2 szlt3 szlt4 szlt5 szlt6

theorem major_yes (f s : Int) (h : maj f s) (w : World) : Calls Try.prog 29 #[.int .i64 f, .int .i64 s] w fun e w' => e = .returned (.bool true) ∧ Below w.heap.size w w' := major_is f s true (tt h) w
theorem major_no (f s : Int) (h : ¬ maj f s) (w : World) : Calls Try.prog 29 #[.int .i64 f, .int .i64 s] w fun e w' => e = .returned (.bool false) ∧ Below w.heap.size w w' := major_is f s false (ff h) w
theorem qwith_any (s k : Int) (w : World) : Calls Try.prog 31 #[.int .i64 s, .int .i64 k] w fun e w' => e = .returned (.int .i64 (withq s k)) ∧ Below w.heap.size w w' := quWith_any s k _ rfl w
theorem qwithout_any (s k : Int) (w : World) : Calls Try.prog 42 #[.int .i64 s, .int .i64 k] w fun e w' => e = .returned (.int .i64 (withoutq s k)) ∧ Below w.heap.size w w' := quWithout_any s k _ rfl w
instance (f s : Int) : Decidable (maj f s) := by unfold maj; exact inferInstance

end Go.Proofs.Ythnmccolfckhdaa
