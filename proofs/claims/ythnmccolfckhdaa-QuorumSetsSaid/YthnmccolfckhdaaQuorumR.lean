/- What the functions of package quorum's reference compute. -/
import Derived.Test.YthnmccolfckhdaaQuorumIs
namespace Go.Proofs.Ythnmccolfckhdaa
open Go.RowKit
set_option linter.unusedSimpArgs false
set_option linter.unusedVariables false
attribute [local go_sem] max2_int max_two min2_int min_two Ext.cell Ext.frozen Ext.cell_set szlt1 szlt2 szlt3 szlt4 szlt5 szlt6
attribute [local simp] szlt1 szlt2 szlt3 szlt4 szlt5 szlt6

theorem or_add (s : Int) (k : Nat) (hk : k < 7) (h : tb s k = false) : bits .or .i64 s (2 ^ k) = wrap64 (s + 2 ^ k) := by
  have e : BitVec.ofInt 64 s ||| BitVec.ofInt 64 (2 ^ k) = BitVec.ofInt 64 s + BitVec.ofInt 64 (2 ^ k) := by
    symm
    apply BitVec.add_eq_or_of_and_eq_zero
    apply BitVec.eq_of_getLsbD_eq
    intro i hi
    rw [BitVec.getLsbD_and, BitVec.getLsbD_zero]
    have hp : (BitVec.ofInt 64 (2 ^ k)).getLsbD i = decide (i = k) := by
      rw [show ((2 : Int) ^ k) = ((2 ^ k : Nat) : Int) by simp, BitVec.ofInt_natCast, BitVec.getLsbD_ofNat, Nat.testBit_two_pow]
      simp [hi, eq_comm]
    rw [hp]
    by_cases hik : i = k
    · subst hik
      have : (BitVec.ofInt 64 s).getLsbD i = false := h
      simp [this]
    · simp [hik]
  unfold bits
  simp only []
  rw [show IntKind.i64.bits = 64 from rfl, e, ← BitVec.ofInt_add, BitVec.toNat_ofInt, IntKind.wrap_i64]
  unfold wrap64
  omega
theorem andNot_sub (s : Int) (k : Nat) (hk : k < 7) (h : tb s k = true) : bits .andNot .i64 s (2 ^ k) = wrap64 (s - 2 ^ k) := by
  have hp : ∀ i, i < 64 → (BitVec.ofInt 64 (2 ^ k)).getLsbD i = decide (i = k) := by
    intro i hi
    rw [show ((2 : Int) ^ k) = ((2 ^ k : Nat) : Int) by simp, BitVec.ofInt_natCast, BitVec.getLsbD_ofNat, Nat.testBit_two_pow]
    simp [hi, eq_comm]
  have e0 : (BitVec.ofInt 64 s &&& ~~~ BitVec.ofInt 64 (2 ^ k)) + BitVec.ofInt 64 (2 ^ k) = BitVec.ofInt 64 s := by
    rw [BitVec.add_eq_or_of_and_eq_zero]
    · apply BitVec.eq_of_getLsbD_eq
      intro i hi
      rw [BitVec.getLsbD_or, BitVec.getLsbD_and, BitVec.getLsbD_not, hp i hi]
      by_cases hik : i = k
      · subst hik
        have : (BitVec.ofInt 64 s).getLsbD i = true := h
        simp [this]
      · simp [hik, hi]
    · apply BitVec.eq_of_getLsbD_eq
      intro i hi
      rw [BitVec.getLsbD_and, BitVec.getLsbD_and, BitVec.getLsbD_not, hp i hi, BitVec.getLsbD_zero]
      by_cases hik : i = k <;> simp [hik]
  have e : BitVec.ofInt 64 s &&& ~~~ BitVec.ofInt 64 (2 ^ k) = BitVec.ofInt 64 (s - 2 ^ k) := by
    rw [BitVec.eq_sub_iff_add_eq.2 e0]
    symm
    rw [BitVec.eq_sub_iff_add_eq, ← BitVec.ofInt_add, Int.sub_add_cancel]
  unfold bits
  simp only []
  rw [show IntKind.i64.bits = 64 from rfl, e, BitVec.toNat_ofInt, IntKind.wrap_i64]
  unfold wrap64
  omega

def uh : Nat → Int → Int
  | 0, s => IntKind.u64.wrap s
  | k + 1, s => IntKind.u64.wrap ((uh k s).tdiv 2)
theorem uwrap (n : Int) : IntKind.u64.wrap n = n % 18446744073709551616 := by simp [IntKind.wrap, IntKind.bits, IntKind.signed]
theorem uh_eq (s : Int) : ∀ k, k < 7 → uh k s = s % 18446744073709551616 / 2 ^ k
  | 0, _ => by simp [uh, uwrap]
  | k + 1, hk => by
    have ih := uh_eq s k (by omega)
    rw [uh, ih, uwrap]
    rcases (by omega : k = 0 ∨ k = 1 ∨ k = 2 ∨ k = 3 ∨ k = 4 ∨ k = 5) with rfl | rfl | rfl | rfl | rfl | rfl
    all_goals
      rw [Int.tdiv_eq_ediv_of_nonneg (by omega)]
      simp only [Nat.zero_add, Nat.reduceAdd, Int.pow_zero, Int.reducePow, Int.pow_one, Int.ediv_one]
      omega
theorem uh_bit (s : Int) (k : Nat) (hk : k < 7) : ((uh k s).tmod 2 == 1) = tb s k := by
  rw [uh_eq s k hk, tb_div s k hk, Bool.eq_iff_iff]
  rcases (by omega : k = 0 ∨ k = 1 ∨ k = 2 ∨ k = 3 ∨ k = 4 ∨ k = 5 ∨ k = 6) with rfl | rfl | rfl | rfl | rfl | rfl | rfl
  all_goals
    rw [Int.tmod_eq_emod_of_nonneg (by omega)]
    first
      | (simp; done)
      | (simp; omega)

set_option maxHeartbeats 1000000 in
theorem rSize_any (f : Int) (w : World) :
    Calls Try.prog 23 #[.int .i64 f] w fun e w' => e = .returned (.int .i64 (sz f)) ∧ Below w.heap.size w w' := by
  rcases f_cases f with rfl | rfl | rfl | ⟨h1, h2, h3⟩
  case' inr.inr.inr =>
    have e1 : (f == 1) = false := beq_eq_false_iff_ne.2 h1
    have e2 : (f == 2) = false := beq_eq_false_iff_ne.2 h2
    have e3 : (f == 3) = false := beq_eq_false_iff_ne.2 h3
    have E0 : Hid (sz f = 0) := Lib.hid (by simp [sz, h1, h2, h3])
    have E1 : Hid (sz f = 0) := Lib.hid (by simp [sz, h1, h2, h3])
  all_goals
    go_enter Try.func23, Try.ntmps23
    go_wp2_with (first | (go_at_call 23; refine (rSize_is _ _ (by first | exact E0.out.symm | rfl) _).mono ?_; rintro e w1 ⟨rfl, hb⟩))
    go_ret
    first
      | exact ⟨ret_int (by rw [E1.out]), by (repeat' (first | (with_reducible exact Below.refl _ _) | (with_reducible assumption) | (with_reducible refine Below.setCell ?_ ?_ _) | (with_reducible refine Below.alloc ?_ ?_ _) | (with_reducible refine Below.drew ?_) | (with_reducible refine below_drewN ?_ _) | (with_reducible refine Ext.grown _ ?_ ?_) | (with_reducible exact Nat.le_refl _) | omega | (simp only [World.size_alloc, World.size_setCell, World.size_drew]; omega) | (simp; omega) | (simp; done)))⟩
      | exact ⟨ret_int (by decide), by (repeat' (first | (with_reducible exact Below.refl _ _) | (with_reducible assumption) | (with_reducible refine Below.setCell ?_ ?_ _) | (with_reducible refine Below.alloc ?_ ?_ _) | (with_reducible refine Below.drew ?_) | (with_reducible refine below_drewN ?_ _) | (with_reducible refine Ext.grown _ ?_ ?_) | (with_reducible exact Nat.le_refl _) | omega | (simp only [World.size_alloc, World.size_setCell, World.size_drew]; omega) | (simp; omega) | (simp; done)))⟩

theorem rSize_is (f x : Int) (hx : x = sz f) (w : World) : Calls Try.prog 23 #[.int .i64 f] w fun e w' => e = .returned (.int .i64 x) ∧ Below w.heap.size w w' := by subst hx; exact rSize_any f w
set_option maxHeartbeats 1000000 in
theorem rSlow_any (f : Int) (w : World) :
    Calls Try.prog 24 #[.int .i64 f] w fun e w' => e = .returned (.int .i64 (slw f)) ∧ Below w.heap.size w w' := by
  rcases f_cases f with rfl | rfl | rfl | ⟨h1, h2, h3⟩
  case' inr.inr.inr =>
    have e1 : (f == 1) = false := beq_eq_false_iff_ne.2 h1
    have e2 : (f == 2) = false := beq_eq_false_iff_ne.2 h2
    have e3 : (f == 3) = false := beq_eq_false_iff_ne.2 h3
    have E0 : Hid (sz f = 0) := Lib.hid (by simp [sz, h1, h2, h3])
    have E1 : Hid (slw f = 0) := Lib.hid (by simp [slw, h1, h2, h3])
  all_goals
    go_enter Try.func24, Try.ntmps24
    go_wp2_with (first | (go_at_call 23; refine (rSize_is _ _ (by first | exact E0.out.symm | rfl) _).mono ?_; rintro e w1 ⟨rfl, hb⟩))
    go_ret
    first
      | exact ⟨ret_int (by rw [E1.out]), by (repeat' (first | (with_reducible exact Below.refl _ _) | (with_reducible assumption) | (with_reducible refine Below.setCell ?_ ?_ _) | (with_reducible refine Below.alloc ?_ ?_ _) | (with_reducible refine Below.drew ?_) | (with_reducible refine below_drewN ?_ _) | (with_reducible refine Ext.grown _ ?_ ?_) | (with_reducible exact Nat.le_refl _) | omega | (simp only [World.size_alloc, World.size_setCell, World.size_drew]; omega) | (simp; omega) | (simp; done)))⟩
      | exact ⟨ret_int (by decide), by (repeat' (first | (with_reducible exact Below.refl _ _) | (with_reducible assumption) | (with_reducible refine Below.setCell ?_ ?_ _) | (with_reducible refine Below.alloc ?_ ?_ _) | (with_reducible refine Below.drew ?_) | (with_reducible refine below_drewN ?_ _) | (with_reducible refine Ext.grown _ ?_ ?_) | (with_reducible exact Nat.le_refl _) | omega | (simp only [World.size_alloc, World.size_setCell, World.size_drew]; omega) | (simp; omega) | (simp; done)))⟩

set_option maxHeartbeats 1000000 in
theorem rFast_any (f : Int) (w : World) :
    Calls Try.prog 25 #[.int .i64 f] w fun e w' => e = .returned (.int .i64 (fst_ f)) ∧ Below w.heap.size w w' := by
  rcases f_cases f with rfl | rfl | rfl | ⟨h1, h2, h3⟩
  case' inr.inr.inr =>
    have e1 : (f == 1) = false := beq_eq_false_iff_ne.2 h1
    have e2 : (f == 2) = false := beq_eq_false_iff_ne.2 h2
    have e3 : (f == 3) = false := beq_eq_false_iff_ne.2 h3
    have E0 : Hid (sz f = 0) := Lib.hid (by simp [sz, h1, h2, h3])
    have E1 : Hid (fst_ f = 0) := Lib.hid (by simp [fst_, h1, h2, h3])
  all_goals
    go_enter Try.func25, Try.ntmps25
    go_wp2_with (first | (go_at_call 23; refine (rSize_is _ _ (by first | exact E0.out.symm | rfl) _).mono ?_; rintro e w1 ⟨rfl, hb⟩))
    go_ret
    first
      | exact ⟨ret_int (by rw [E1.out]), by (repeat' (first | (with_reducible exact Below.refl _ _) | (with_reducible assumption) | (with_reducible refine Below.setCell ?_ ?_ _) | (with_reducible refine Below.alloc ?_ ?_ _) | (with_reducible refine Below.drew ?_) | (with_reducible refine below_drewN ?_ _) | (with_reducible refine Ext.grown _ ?_ ?_) | (with_reducible exact Nat.le_refl _) | omega | (simp only [World.size_alloc, World.size_setCell, World.size_drew]; omega) | (simp; omega) | (simp; done)))⟩
      | exact ⟨ret_int (by decide), by (repeat' (first | (with_reducible exact Below.refl _ _) | (with_reducible assumption) | (with_reducible refine Below.setCell ?_ ?_ _) | (with_reducible refine Below.alloc ?_ ?_ _) | (with_reducible refine Below.drew ?_) | (with_reducible refine below_drewN ?_ _) | (with_reducible refine Ext.grown _ ?_ ?_) | (with_reducible exact Nat.le_refl _) | omega | (simp only [World.size_alloc, World.size_setCell, World.size_drew]; omega) | (simp; omega) | (simp; done)))⟩

theorem rSlow_is (f x : Int) (hx : x = slw f) (w : World) : Calls Try.prog 24 #[.int .i64 f] w fun e w' => e = .returned (.int .i64 x) ∧ Below w.heap.size w w' := by subst hx; exact rSlow_any f w
set_option maxHeartbeats 4000000 in
theorem rHas_is (s k : Int) (x : Bool) (hx : x = (decide (0 ≤ k ∧ k < 7) && tb s k.toNat)) (w : World) :
    Calls Try.prog 44 #[.int .i64 s, .int .i64 k] w fun e w' => e = .returned (.bool x) ∧ Below w.heap.size w w' := by
  have H := Lib.hid hx
  clear hx
  rcases k_cases k with rfl | rfl | rfl | rfl | rfl | rfl | rfl | hk
  case' inr.inr.inr.inr.inr.inr.inr =>
    by_cases h0 : k < 0
    all_goals
      have hb := h0
      first
        | (replace hb : decide (k < 0) = true := decide_eq_true h0)
        | (replace hb : decide (k < 0) = false := decide_eq_false h0; have hg : decide (6 < k) = true := decide_eq_true (by omega))
      go_enter Try.func44, Try.ntmps44
      go_wp2
      go_ret
      exact ⟨ret_bool (by rw [H.out]; simp; omega), Below.refl _ _⟩
  all_goals
    go_enter Try.func44, Try.ntmps44
    go_wp2
    refine wp_loop_rounds 8 ?_
    repeat any_goals (rw [rounds_succ]; go_wp2)
    go_ret
    exact ⟨ret_bool (by rw [H.out]; first | exact (uh_bit s 0 (by omega)).trans (by simp) | exact (uh_bit s 1 (by omega)).trans (by simp) | exact (uh_bit s 2 (by omega)).trans (by simp) | exact (uh_bit s 3 (by omega)).trans (by simp) | exact (uh_bit s 4 (by omega)).trans (by simp) | exact (uh_bit s 5 (by omega)).trans (by simp) | exact (uh_bit s 6 (by omega)).trans (by simp)), by (repeat' (first | (with_reducible exact Below.refl _ _) | (with_reducible assumption) | (with_reducible refine Below.setCell ?_ ?_ _) | (with_reducible refine Below.alloc ?_ ?_ _) | (with_reducible refine Below.drew ?_) | (with_reducible refine below_drewN ?_ _) | (with_reducible refine Ext.grown _ ?_ ?_) | (with_reducible exact Nat.le_refl _) | omega | (simp only [World.size_alloc, World.size_setCell, World.size_drew]; omega) | (simp; omega) | (simp; done)))⟩

set_option maxHeartbeats 4000000 in
theorem power_any (k : Int) (h0 : 0 ≤ k) (h7 : k < 7) (w : World) :
    Calls Try.prog 54 #[.int .i64 k] w fun e w' => e = .returned (.int .i64 (2 ^ k.toNat)) ∧ Below w.heap.size w w' := by
  rcases (by omega : k = 0 ∨ k = 1 ∨ k = 2 ∨ k = 3 ∨ k = 4 ∨ k = 5 ∨ k = 6) with rfl | rfl | rfl | rfl | rfl | rfl | rfl
  all_goals
    go_enter Try.func54, Try.ntmps54
    go_wp2
    refine wp_loop_rounds 8 ?_
    repeat any_goals (rw [rounds_succ]; go_wp2)
    go_ret
    exact ⟨rfl, by (repeat' (first | (with_reducible exact Below.refl _ _) | (with_reducible assumption) | (with_reducible refine Below.setCell ?_ ?_ _) | (with_reducible refine Below.alloc ?_ ?_ _) | (with_reducible refine Below.drew ?_) | (with_reducible refine below_drewN ?_ _) | (with_reducible refine Ext.grown _ ?_ ?_) | (with_reducible exact Nat.le_refl _) | omega | (simp only [World.size_alloc, World.size_setCell, World.size_drew]; omega) | (simp; omega) | (simp; done)))⟩

end Go.Proofs.Ythnmccolfckhdaa
