/- Sets as whole numbers: their lowest seven bits; what '&', '|', '&^' do to them. -/
import Derived.Test.YtcoohapohkbnpaaProg
import Derived.WalkKit
import Derived.Laws.BitsLemmas
namespace Go.Proofs.Ytcoohapohkbnpaa
open Go.RowKit
set_option linter.unusedSimpArgs false
set_option linter.unusedVariables false
/-- Bit k of a set. -/
def tb (s : Int) (k : Nat) : Bool := (BitVec.ofInt 64 s).getLsbD k
theorem tb_div (s : Int) (k : Nat) (hk : k < 7) : tb s k = decide (s / 2 ^ k % 2 = 1) := by
  unfold tb
  rw [BitVec.getLsbD, BitVec.toNat_ofInt, Nat.testBit_eq_decide_div_mod_eq, decide_eq_decide]
  rcases (by omega : k = 0 ∨ k = 1 ∨ k = 2 ∨ k = 3 ∨ k = 4 ∨ k = 5 ∨ k = 6) with rfl | rfl | rfl | rfl | rfl | rfl | rfl <;> omega
theorem ofInt_wrap (v : BitVec 64) : BitVec.ofInt 64 (IntKind.i64.wrap v.toNat) = v := by
  have h := v.isLt
  apply BitVec.eq_of_toNat_eq
  rw [BitVec.toNat_ofInt, IntKind.wrap_i64]
  omega
theorem tb_and (x y : Int) (k : Nat) : tb (bits .and .i64 x y) k = (tb x k && tb y k) := by
  unfold tb bits
  simp only []
  rw [show IntKind.i64.bits = 64 from rfl, ofInt_wrap, BitVec.getLsbD_and]
theorem tb_or (x y : Int) (k : Nat) : tb (bits .or .i64 x y) k = (tb x k || tb y k) := by
  unfold tb bits
  simp only []
  rw [show IntKind.i64.bits = 64 from rfl, ofInt_wrap, BitVec.getLsbD_or]
theorem tb_andNot (x y : Int) (k : Nat) (hk : k < 64) : tb (bits .andNot .i64 x y) k = (tb x k && !tb y k) := by
  unfold tb bits
  simp only []
  rw [show IntKind.i64.bits = 64 from rfl, ofInt_wrap, BitVec.getLsbD_and, BitVec.getLsbD_not]
  simp [hk]
theorem and_one (x : Int) : (bits .and .i64 x 1 == 1) = decide (x % 2 = 1) := by
  have h : bits .and .i64 x 1 = x % 2 := by
    unfold bits
    simp only []
    have h1 : (BitVec.ofInt IntKind.i64.bits x &&& BitVec.ofInt IntKind.i64.bits 1).toNat = (x % 2).toNat := by
      rw [show IntKind.i64.bits = 64 from rfl, BitVec.toNat_and, BitVec.toNat_ofInt, BitVec.toNat_ofInt]
      rw [show ((1 : Int) % (2 ^ 64 : Nat)).toNat = 1 by decide, Nat.and_one_is_mod]
      omega
    rw [h1, IntKind.wrap_i64]
    omega
  rw [h, Bool.eq_iff_iff]
  simp
theorem has_bit (s : Int) (k : Nat) (hk : k < 7) : (bits .and .i64 (s / 2 ^ k) 1 == 1) = tb s k := by
  rw [and_one, tb_div s k hk]
/-- A bit as a number. -/
def bn (s : Int) (k : Nat) : Nat := (tb s k).toNat
theorem bn_le (s : Int) (k : Nat) : bn s k ≤ 1 := by unfold bn; cases tb s k <;> decide
/-- The replicas below k that are in a set. -/
def mem (s : Int) (k : Nat) : List Int := ((List.range k).filter (tb s)).map Int.ofNat
theorem mem_zero (s : Int) : mem s 0 = [] := rfl
theorem mem_yes (s : Int) (k : Nat) (h : tb s k = true) : mem s (k + 1) = mem s k ++ [(k : Int)] := by
  simp [mem, List.range_succ, List.filter_append, h]
theorem mem_no (s : Int) (k : Nat) (h : tb s k = false) : mem s (k + 1) = mem s k := by
  simp [mem, List.range_succ, List.filter_append, h]
theorem mem_le (s : Int) (k : Nat) : (mem s k).length ≤ k := by
  unfold mem
  rw [List.length_map]
  have := List.length_filter_le (tb s) (List.range k)
  simpa using this
theorem mem_len (s : Int) (k : Nat) : (mem s (k + 1)).length = (mem s k).length + bn s k := by
  cases h : tb s k
  · rw [mem_no s k h]; simp [bn, h]
  · rw [mem_yes s k h]; simp [bn, h]
theorem mem7 (s : Int) : (mem s 7).length = bn s 0 + bn s 1 + bn s 2 + bn s 3 + bn s 4 + bn s 5 + bn s 6 := by
  simp only [mem_len, mem_zero, List.length_nil, Nat.zero_add]
end Go.Proofs.Ytcoohapohkbnpaa
