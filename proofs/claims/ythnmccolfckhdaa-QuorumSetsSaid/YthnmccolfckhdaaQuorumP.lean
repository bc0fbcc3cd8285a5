/- Plain facts on sets of replicas: majorities, fast quorums, one more, one less. -/
import Derived.Test.YthnmccolfckhdaaQuorum
namespace Go.Proofs.Ythnmccolfckhdaa
set_option linter.unusedSimpArgs false
set_option linter.unusedVariables false
theorem tb_7 : tb 7 0 = true ∧ tb 7 1 = true ∧ tb 7 2 = true ∧ tb 7 3 = false ∧ tb 7 4 = false ∧ tb 7 5 = false ∧ tb 7 6 = false := by decide
theorem tb_31 : tb 31 0 = true ∧ tb 31 1 = true ∧ tb 31 2 = true ∧ tb 31 3 = true ∧ tb 31 4 = true ∧ tb 31 5 = false ∧ tb 31 6 = false := by decide
theorem tb_127 : tb 127 0 = true ∧ tb 127 1 = true ∧ tb 127 2 = true ∧ tb 127 3 = true ∧ tb 127 4 = true ∧ tb 127 5 = true ∧ tb 127 6 = true := by decide
theorem tb_0 : tb 0 0 = false ∧ tb 0 1 = false ∧ tb 0 2 = false ∧ tb 0 3 = false ∧ tb 0 4 = false ∧ tb 0 5 = false ∧ tb 0 6 = false := by decide
theorem and_toNat (x y : Bool) : x.toNat + y.toNat ≤ (x && y).toNat + 1 ∧ (x && y).toNat ≤ x.toNat ∧ (x && y).toNat ≤ y.toNat ∧ x.toNat ≤ 1 ∧ y.toNat ≤ 1 := by cases x <;> cases y <;> decide
theorem not_toNat (x : Bool) : x.toNat + (!x).toNat = 1 := by cases x <;> decide
theorem tb_pow (k j : Nat) (hk : k < 7) (hj : j < 7) : tb (2 ^ k) j = decide (j = k) := by
  have h : ∀ k, k < 7 → ∀ j, j < 7 → tb (2 ^ k) j = decide (j = k) := by decide
  exact h k hk j hj
/-- A majority of f's shard. -/
def maj (f s : Int) : Prop := 0 < slw f ∧ slw f ≤ (mem (bits .and .i64 s (allq f)) 7).length
theorem meet_pure (f a b : Int) (ha : maj f a) (hb : maj f b) : 1 ≤ (mem (bits .and .i64 (bits .and .i64 a b) (allq f)) 7).length := by
  have h0 := and_toNat (tb a 0) (tb b 0)
  have h1 := and_toNat (tb a 1) (tb b 1)
  have h2 := and_toNat (tb a 2) (tb b 2)
  have h3 := and_toNat (tb a 3) (tb b 3)
  have h4 := and_toNat (tb a 4) (tb b 4)
  have h5 := and_toNat (tb a 5) (tb b 5)
  have h6 := and_toNat (tb a 6) (tb b 6)
  unfold maj at ha hb
  rcases f_cases f with rfl | rfl | rfl | ⟨n1, n2, n3⟩
  · simp [slw, allq, mem7, bn, tb_and, tb_7] at ha hb ⊢; omega
  · simp [slw, allq, mem7, bn, tb_and, tb_31] at ha hb ⊢; omega
  · simp [slw, allq, mem7, bn, tb_and, tb_127] at ha hb ⊢; omega
  · simp [slw, n1, n2, n3] at ha
theorem fast_pure (f a b k : Int) (hf : f = 1 ∨ f = 2 ∨ f = 3) (ha : fst_ f ≤ (mem (bits .and .i64 a (allq f)) 7).length) (hb : maj f (bits .and .i64 b (allq f))) (h0 : 0 ≤ k) (h7 : k < 7)
    (hka : tb (bits .and .i64 a (allq f)) k.toNat = true) (hkb : tb (bits .and .i64 b (allq f)) k.toNat = false) :
    f ≤ (mem (bits .and .i64 (bits .and .i64 a (allq f)) (bits .and .i64 b (allq f))) 7).length := by
  have h0 := and_toNat (tb a 0) (tb b 0)
  have h1 := and_toNat (tb a 1) (tb b 1)
  have h2 := and_toNat (tb a 2) (tb b 2)
  have h3 := and_toNat (tb a 3) (tb b 3)
  have h4 := and_toNat (tb a 4) (tb b 4)
  have h5 := and_toNat (tb a 5) (tb b 5)
  have h6 := and_toNat (tb a 6) (tb b 6)
  unfold maj at hb
  rcases hf with rfl | rfl | rfl
  all_goals rcases (by omega : k = 0 ∨ k = 1 ∨ k = 2 ∨ k = 3 ∨ k = 4 ∨ k = 5 ∨ k = 6) with rfl | rfl | rfl | rfl | rfl | rfl | rfl
  all_goals simp [slw, fst_, allq, mem7, bn, tb_and, tb_7, tb_31, tb_127] at ha hb hka hkb ⊢
  all_goals simp [hka, hkb] at *
  all_goals omega
theorem parts_count (f s : Int) : ((mem (bits .and .i64 s (allq f)) 7).length : Int) + (mem (bits .andNot .i64 (allq f) s) 7).length = sz f := by
  have h0 := not_toNat (tb s 0)
  have h1 := not_toNat (tb s 1)
  have h2 := not_toNat (tb s 2)
  have h3 := not_toNat (tb s 3)
  have h4 := not_toNat (tb s 4)
  have h5 := not_toNat (tb s 5)
  have h6 := not_toNat (tb s 6)
  rcases f_cases f with rfl | rfl | rfl | ⟨n1, n2, n3⟩
  · simp [sz, allq, mem7, bn, tb_and, tb_andNot, tb_7]; omega
  · simp [sz, allq, mem7, bn, tb_and, tb_andNot, tb_31]; omega
  · simp [sz, allq, mem7, bn, tb_and, tb_andNot, tb_127]; omega
  · simp [sz, allq, n1, n2, n3, mem7, bn, tb_and, tb_andNot, tb_0]
theorem parts_none (f s : Int) : (mem (bits .and .i64 (bits .and .i64 s (allq f)) (bits .andNot .i64 (allq f) s)) 7).length = 0 := by
  simp only [mem7, bn, tb_and, tb_andNot _ _ _ (show (0 : Nat) < 64 by decide), tb_andNot _ _ _ (show (1 : Nat) < 64 by decide), tb_andNot _ _ _ (show (2 : Nat) < 64 by decide), tb_andNot _ _ _ (show (3 : Nat) < 64 by decide), tb_andNot _ _ _ (show (4 : Nat) < 64 by decide), tb_andNot _ _ _ (show (5 : Nat) < 64 by decide), tb_andNot _ _ _ (show (6 : Nat) < 64 by decide)]
  cases tb s 0 <;> cases tb s 1 <;> cases tb s 2 <;> cases tb s 3 <;> cases tb s 4 <;> cases tb s 5 <;> cases tb s 6 <;> simp
theorem idem (f s : Int) : (mem (bits .and .i64 (bits .and .i64 s (allq f)) (allq f)) 7).length = (mem (bits .and .i64 s (allq f)) 7).length := by
  simp only [mem7, bn, tb_and, Bool.and_assoc, Bool.and_self]
theorem idemN (f s : Int) : (mem (bits .and .i64 (bits .andNot .i64 (allq f) s) (allq f)) 7).length = (mem (bits .andNot .i64 (allq f) s) 7).length := by
  simp only [mem7, bn, tb_and, tb_andNot _ _ _ (show (0 : Nat) < 64 by decide), tb_andNot _ _ _ (show (1 : Nat) < 64 by decide), tb_andNot _ _ _ (show (2 : Nat) < 64 by decide), tb_andNot _ _ _ (show (3 : Nat) < 64 by decide), tb_andNot _ _ _ (show (4 : Nat) < 64 by decide), tb_andNot _ _ _ (show (5 : Nat) < 64 by decide), tb_andNot _ _ _ (show (6 : Nat) < 64 by decide)]
  cases tb (allq f) 0 <;> cases tb (allq f) 1 <;> cases tb (allq f) 2 <;> cases tb (allq f) 3 <;> cases tb (allq f) 4 <;> cases tb (allq f) 5 <;> cases tb (allq f) 6 <;> simp
theorem szsl (f : Int) : (sz f = 0 ∧ slw f = 0 ∧ fst_ f = 0 ∧ allq f = 0) ∨ (sz f = 2 * slw f - 1 ∧ 0 < slw f ∧ slw f = f + 1 ∧ fst_ f = 2 * f ∧ sz f ≠ 0 ∧ (f = 1 ∨ f = 2 ∨ f = 3)) := by
  rcases f_cases f with rfl | rfl | rfl | ⟨n1, n2, n3⟩
  · right; decide
  · right; decide
  · right; decide
  · left; simp [sz, slw, fst_, allq, n1, n2, n3]
/-- What With, Without hand back. -/
def withq (s k : Int) : Int := if 0 ≤ k ∧ k < 7 then bits .or .i64 s (2 ^ k.toNat) else s
def withoutq (s k : Int) : Int := if 0 ≤ k ∧ k < 7 then bits .andNot .i64 s (2 ^ k.toNat) else s
theorem tb_withq (s k : Int) (j : Nat) (hj : j < 7) : tb (withq s k) j = (tb s j || decide ((j : Int) = k)) := by
  unfold withq
  split
  · rename_i h
    have hk : k.toNat < 7 := by omega
    have e : (2 : Int) ^ k.toNat = ((2 ^ k.toNat : Nat) : Int) := by simp
    rw [tb_or, tb_pow _ _ hk hj]
    congr 1
    rw [decide_eq_decide]
    omega
  · rename_i h
    rw [show decide ((j : Int) = k) = false from decide_eq_false (by omega), Bool.or_false]
theorem tb_withoutq (s k : Int) (j : Nat) (hj : j < 7) : tb (withoutq s k) j = (tb s j && !decide ((j : Int) = k)) := by
  unfold withoutq
  split
  · rename_i h
    have hk : k.toNat < 7 := by omega
    rw [tb_andNot _ _ _ (by omega), tb_pow _ _ hk hj]
    congr 2
    rw [decide_eq_decide]
    omega
  · rename_i h
    rw [show decide ((j : Int) = k) = false from decide_eq_false (by omega), Bool.not_false, Bool.and_true]
theorem or_toNat (x y : Bool) : x.toNat ≤ (x || y).toNat ∧ (x || y).toNat ≤ x.toNat + y.toNat ∧ y.toNat ≤ 1 := by cases x <;> cases y <;> decide
theorem dec_sum (k : Int) : (decide (((0 : Nat) : Int) = k)).toNat + (decide (((1 : Nat) : Int) = k)).toNat + (decide (((2 : Nat) : Int) = k)).toNat + (decide (((3 : Nat) : Int) = k)).toNat + (decide (((4 : Nat) : Int) = k)).toNat + (decide (((5 : Nat) : Int) = k)).toNat + (decide (((6 : Nat) : Int) = k)).toNat ≤ 1 := by
  rcases k_cases k with rfl | rfl | rfl | rfl | rfl | rfl | rfl | h
  all_goals first | decide | skip
  simp only [show decide (((0 : Nat) : Int) = k) = false from decide_eq_false (by omega), show decide (((1 : Nat) : Int) = k) = false from decide_eq_false (by omega), show decide (((2 : Nat) : Int) = k) = false from decide_eq_false (by omega), show decide (((3 : Nat) : Int) = k) = false from decide_eq_false (by omega), show decide (((4 : Nat) : Int) = k) = false from decide_eq_false (by omega), show decide (((5 : Nat) : Int) = k) = false from decide_eq_false (by omega), show decide (((6 : Nat) : Int) = k) = false from decide_eq_false (by omega)]
  decide
theorem grows_count (s k : Int) : (mem s 7).length ≤ (mem (withq s k) 7).length ∧ (mem (withq s k) 7).length ≤ (mem s 7).length + 1 := by
  have d := dec_sum k
  have h0 := or_toNat (tb s 0) (decide (((0 : Nat) : Int) = k))
  have h1 := or_toNat (tb s 1) (decide (((1 : Nat) : Int) = k))
  have h2 := or_toNat (tb s 2) (decide (((2 : Nat) : Int) = k))
  have h3 := or_toNat (tb s 3) (decide (((3 : Nat) : Int) = k))
  have h4 := or_toNat (tb s 4) (decide (((4 : Nat) : Int) = k))
  have h5 := or_toNat (tb s 5) (decide (((5 : Nat) : Int) = k))
  have h6 := or_toNat (tb s 6) (decide (((6 : Nat) : Int) = k))
  simp only [mem7, bn, tb_withq _ _ _ (show (0 : Nat) < 7 by decide), tb_withq _ _ _ (show (1 : Nat) < 7 by decide), tb_withq _ _ _ (show (2 : Nat) < 7 by decide), tb_withq _ _ _ (show (3 : Nat) < 7 by decide), tb_withq _ _ _ (show (4 : Nat) < 7 by decide), tb_withq _ _ _ (show (5 : Nat) < 7 by decide), tb_withq _ _ _ (show (6 : Nat) < 7 by decide)]
  omega
theorem grows_maj (f s k : Int) (h : maj f s) : maj f (withq s k) := by
  refine ⟨h.1, Int.le_trans h.2 ?_⟩
  have hh : ∀ x y z : Bool, (x && z).toNat ≤ ((x || y) && z).toNat := by decide
  have h0 := hh (tb s 0) (decide (((0 : Nat) : Int) = k)) (tb (allq f) 0)
  have h1 := hh (tb s 1) (decide (((1 : Nat) : Int) = k)) (tb (allq f) 1)
  have h2 := hh (tb s 2) (decide (((2 : Nat) : Int) = k)) (tb (allq f) 2)
  have h3 := hh (tb s 3) (decide (((3 : Nat) : Int) = k)) (tb (allq f) 3)
  have h4 := hh (tb s 4) (decide (((4 : Nat) : Int) = k)) (tb (allq f) 4)
  have h5 := hh (tb s 5) (decide (((5 : Nat) : Int) = k)) (tb (allq f) 5)
  have h6 := hh (tb s 6) (decide (((6 : Nat) : Int) = k)) (tb (allq f) 6)
  simp only [mem7, bn, tb_and, tb_withq _ _ _ (show (0 : Nat) < 7 by decide), tb_withq _ _ _ (show (1 : Nat) < 7 by decide), tb_withq _ _ _ (show (2 : Nat) < 7 by decide), tb_withq _ _ _ (show (3 : Nat) < 7 by decide), tb_withq _ _ _ (show (4 : Nat) < 7 by decide), tb_withq _ _ _ (show (5 : Nat) < 7 by decide), tb_withq _ _ _ (show (6 : Nat) < 7 by decide)]
  omega
end Go.Proofs.Ythnmccolfckhdaa
