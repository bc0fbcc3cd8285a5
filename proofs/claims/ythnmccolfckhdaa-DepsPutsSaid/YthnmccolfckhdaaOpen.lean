/- Arguments that are arrays or structs of whole numbers, taken apart. -/
import Derived.Test.YthnmccolfckhdaaProg
import Derived.WideShapes
import Derived.ProofKit
import Derived.KernelRfl
namespace Go.Proofs.Ythnmccolfckhdaa
open Go.RowKit
set_option linter.unusedVariables false
theorem cells_of_okWide {P : Program} {w : World} {base : Nat} {t : TypeId} {v : Value} {d : TypeDesc} (hu : P.underlying t = some d) (hd : (match d with | .struct _ | .array _ _ => true | _ => false) = true) {ts : List TypeId}
    (hts : P.cellTypes P.depth t = some ts) (hc : P.cellsOf t = ts.length) (hv : Value.okWide P w .any base t v) :
    ∃ cs : Array Value, v = .agg cs ∧ cs.size = ts.length ∧ ∀ (i : Nat) (x : Value) (u : TypeId), cs[i]? = some x → ts[i]? = some u → Cell.okWide P w .any base u x := by
  unfold Value.okWide at hv
  rw [hu] at hv
  have hv2 : ∃ cs : Array Value, v = .agg cs ∧ cs.size = P.cellsOf t ∧ Row.okWide P w .any base t cs := by
    cases d <;> simp at hd <;> exact hv
  obtain ⟨cs, rfl, hsz, ts', hts', _, hall⟩ := hv2
  rw [hts] at hts'
  obtain rfl := Option.some.inj hts'
  refine ⟨cs, rfl, hsz.trans hc, fun i x u hx hu2 => ?_⟩
  obtain ⟨u', hu', hok⟩ := hall i x hx
  have hi : i < ts.length := (List.getElem?_eq_some_iff.1 hu2).1
  rw [Nat.mod_eq_of_lt hi, hu2] at hu'
  obtain rfl := Option.some.inj hu'
  exact hok
theorem int_of_cell {P : Program} {w : World} {base : Nat} {u : TypeId} {x : Value} (hu : P.underlying u = some (.int .i64)) (h : Cell.okWide P w .any base u x) : ∃ n : Int, x = .int .i64 n ∧ (-9223372036854775808 ≤ n ∧ n ≤ 9223372036854775807) := by
  unfold Cell.okWide at h
  rw [hu] at h
  unfold Cell.ok at h
  rw [hu] at h
  cases x <;> simp at h
  obtain ⟨rfl, h⟩ := h
  refine ⟨_, rfl, ?_⟩
  simp only [IntKind.has, IntKind.min, IntKind.max, IntKind.signed, IntKind.bits] at h
  simpa using h
theorem i64_range {n : Int} (h : (Lit.int .i64 n).wf = true) : -9223372036854775808 ≤ n ∧ n ≤ 9223372036854775807 := by
  simp [Lit.wf, IntKind.min, IntKind.max, IntKind.signed, IntKind.bits] at h
  omega
theorem open_deps {w : World} {base : Nat} {v : Value} (hv : Value.okWide Try.prog w .any base 23 v) : ∃ x0 x1 x2 x3 x4 x5 x6 : Int, v = .agg #[.int .i64 x0, .int .i64 x1, .int .i64 x2, .int .i64 x3, .int .i64 x4, .int .i64 x5, .int .i64 x6] ∧ (-9223372036854775808 ≤ x0 ∧ x0 ≤ 9223372036854775807) ∧ (-9223372036854775808 ≤ x1 ∧ x1 ≤ 9223372036854775807) ∧ (-9223372036854775808 ≤ x2 ∧ x2 ≤ 9223372036854775807) ∧ (-9223372036854775808 ≤ x3 ∧ x3 ≤ 9223372036854775807) ∧ (-9223372036854775808 ≤ x4 ∧ x4 ≤ 9223372036854775807) ∧ (-9223372036854775808 ≤ x5 ∧ x5 ≤ 9223372036854775807) ∧ (-9223372036854775808 ≤ x6 ∧ x6 ≤ 9223372036854775807) := by
  obtain ⟨cs, rfl, hsz, h⟩ := cells_of_okWide Try.underlying23 rfl (ts := [3, 3, 3, 3, 3, 3, 3]) (by kernel_rfl) (by kernel_rfl) hv
  have hn : cs.size = 7 := hsz
  obtain ⟨x0, e0, r0⟩ := int_of_cell Try.underlying3 (h 0 cs[0] 3 (by simp [hn]) rfl)
  obtain ⟨x1, e1, r1⟩ := int_of_cell Try.underlying3 (h 1 cs[1] 3 (by simp [hn]) rfl)
  obtain ⟨x2, e2, r2⟩ := int_of_cell Try.underlying3 (h 2 cs[2] 3 (by simp [hn]) rfl)
  obtain ⟨x3, e3, r3⟩ := int_of_cell Try.underlying3 (h 3 cs[3] 3 (by simp [hn]) rfl)
  obtain ⟨x4, e4, r4⟩ := int_of_cell Try.underlying3 (h 4 cs[4] 3 (by simp [hn]) rfl)
  obtain ⟨x5, e5, r5⟩ := int_of_cell Try.underlying3 (h 5 cs[5] 3 (by simp [hn]) rfl)
  obtain ⟨x6, e6, r6⟩ := int_of_cell Try.underlying3 (h 6 cs[6] 3 (by simp [hn]) rfl)
  refine ⟨x0, x1, x2, x3, x4, x5, x6, ?_, r0, r1, r2, r3, r4, r5, r6⟩
  congr 1
  apply Array.ext
  · simpa using hn
  · intro i h1 h2
    have hi : i < 7 := by omega
    rcases (by omega : i = 0 ∨ i = 1 ∨ i = 2 ∨ i = 3 ∨ i = 4 ∨ i = 5 ∨ i = 6) with rfl | rfl | rfl | rfl | rfl | rfl | rfl
    all_goals first | exact e0 | exact e1 | exact e2 | exact e3 | exact e4 | exact e5 | exact e6
theorem open_inst {w : World} {base : Nat} {v : Value} (hv : Value.okWide Try.prog w .any base 25 v) : ∃ x0 x1 : Int, v = .agg #[.int .i64 x0, .int .i64 x1] ∧ (-9223372036854775808 ≤ x0 ∧ x0 ≤ 9223372036854775807) ∧ (-9223372036854775808 ≤ x1 ∧ x1 ≤ 9223372036854775807) := by
  obtain ⟨cs, rfl, hsz, h⟩ := cells_of_okWide Try.underlying25 rfl (ts := [3, 3]) (by kernel_rfl) (by kernel_rfl) hv
  have hn : cs.size = 2 := hsz
  obtain ⟨x0, e0, r0⟩ := int_of_cell Try.underlying3 (h 0 cs[0] 3 (by simp [hn]) rfl)
  obtain ⟨x1, e1, r1⟩ := int_of_cell Try.underlying3 (h 1 cs[1] 3 (by simp [hn]) rfl)
  refine ⟨x0, x1, ?_, r0, r1⟩
  congr 1
  apply Array.ext
  · simpa using hn
  · intro i h1 h2
    have hi : i < 2 := by omega
    rcases (by omega : i = 0 ∨ i = 1) with rfl | rfl
    all_goals first | exact e0 | exact e1
end Go.Proofs.Ythnmccolfckhdaa
