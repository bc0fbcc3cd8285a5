/- With, Without, Members, Count, Major of package quorum's reference. -/
import Derived.Test.YthnmccolfckhdaaQuorumR
namespace Go.Proofs.Ythnmccolfckhdaa
open Go.RowKit
set_option linter.unusedSimpArgs false
set_option linter.unusedVariables false
attribute [local go_sem] max2_int max_two min2_int min_two Ext.cell Ext.frozen Ext.cell_set szlt1 szlt2 szlt3 szlt4 szlt5 szlt6
attribute [local simp] szlt1 szlt2 szlt3 szlt4 szlt5 szlt6

theorem wrap_of (s : Int) (h : -9223372036854775808 ≤ s ∧ s ≤ 9223372036854775807) : IntKind.i64.wrap ((BitVec.ofInt 64 s).toNat : Int) = s := by
  rw [BitVec.toNat_ofInt, IntKind.wrap_i64]
  omega
theorem or_same (s : Int) (k : Nat) (hk : k < 7) (r : -9223372036854775808 ≤ s ∧ s ≤ 9223372036854775807) (h : tb s k = true) : bits .or .i64 s (2 ^ k) = s := by
  have e : BitVec.ofInt 64 s ||| BitVec.ofInt 64 (2 ^ k) = BitVec.ofInt 64 s := by
    apply BitVec.eq_of_getLsbD_eq
    intro i hi
    have hp : (BitVec.ofInt 64 (2 ^ k)).getLsbD i = decide (i = k) := by
      rw [show ((2 : Int) ^ k) = ((2 ^ k : Nat) : Int) by simp, BitVec.ofInt_natCast, BitVec.getLsbD_ofNat, Nat.testBit_two_pow]
      simp [hi, eq_comm]
    rw [BitVec.getLsbD_or, hp]
    by_cases hik : i = k
    · subst hik
      have : (BitVec.ofInt 64 s).getLsbD i = true := h
      simp [this]
    · simp [hik]
  unfold bits
  simp only []
  rw [show IntKind.i64.bits = 64 from rfl, e, wrap_of s r]
theorem andNot_same (s : Int) (k : Nat) (hk : k < 7) (r : -9223372036854775808 ≤ s ∧ s ≤ 9223372036854775807) (h : tb s k = false) : bits .andNot .i64 s (2 ^ k) = s := by
  have e : BitVec.ofInt 64 s &&& ~~~ BitVec.ofInt 64 (2 ^ k) = BitVec.ofInt 64 s := by
    apply BitVec.eq_of_getLsbD_eq
    intro i hi
    have hp : (BitVec.ofInt 64 (2 ^ k)).getLsbD i = decide (i = k) := by
      rw [show ((2 : Int) ^ k) = ((2 ^ k : Nat) : Int) by simp, BitVec.ofInt_natCast, BitVec.getLsbD_ofNat, Nat.testBit_two_pow]
      simp [hi, eq_comm]
    rw [BitVec.getLsbD_and, BitVec.getLsbD_not, hp]
    by_cases hik : i = k
    · subst hik
      have : (BitVec.ofInt 64 s).getLsbD i = false := h
      simp [this]
    · simp [hik, hi]
  unfold bits
  simp only []
  rw [show IntKind.i64.bits = 64 from rfl, e, wrap_of s r]
theorem withq_no (s : Int) (k : Int) (h0 : 0 ≤ k ∧ k < 7) (h : tb s k.toNat = false) : withq s k = wrap64 (s + 2 ^ k.toNat) := by
  unfold withq; rw [if_pos h0, or_add s k.toNat (by omega) h]
theorem withq_yes (s : Int) (k : Int) (r : -9223372036854775808 ≤ s ∧ s ≤ 9223372036854775807) (h : 0 ≤ k ∧ k < 7 → tb s k.toNat = true) : withq s k = s := by
  unfold withq
  split
  · rename_i h0; exact or_same s k.toNat (by omega) r (h h0)
  · rfl
theorem withoutq_yes (s : Int) (k : Int) (h0 : 0 ≤ k ∧ k < 7) (h : tb s k.toNat = true) : withoutq s k = wrap64 (s - 2 ^ k.toNat) := by
  unfold withoutq; rw [if_pos h0, andNot_sub s k.toNat (by omega) h]
theorem withoutq_no (s : Int) (k : Int) (r : -9223372036854775808 ≤ s ∧ s ≤ 9223372036854775807) (h : 0 ≤ k ∧ k < 7 → tb s k.toNat = false) : withoutq s k = s := by
  unfold withoutq
  split
  · rename_i h0; exact andNot_same s k.toNat (by omega) r (h h0)
  · rfl

theorem power_is (k : Int) (h0 : 0 ≤ k) (h7 : k < 7) (x : Int) (hx : x = 2 ^ k.toNat) (w : World) :
    Calls Try.prog 54 #[.int .i64 k] w fun e w' => e = .returned (.int .i64 x) ∧ Below w.heap.size w w' := by subst hx; exact power_any k h0 h7 w

set_option maxHeartbeats 4000000 in
theorem rqWith_any (s k : Int) (rs : -9223372036854775808 ≤ s ∧ s ≤ 9223372036854775807) (w : World) :
    Calls Try.prog 45 #[.int .i64 s, .int .i64 k] w fun e w' => e = .returned (.int .i64 (withq s k)) ∧ Below w.heap.size w w' := by
  by_cases h : 0 ≤ k ∧ k < 7
  · have c0 : decide (k < 0) = false := decide_eq_false (by omega)
    have c6 : decide (6 < k) = false := decide_eq_false (by omega)
    cases hb : tb s k.toNat with
    | true =>
      have HE := Lib.hid (withq_yes s k rs (fun _ => hb))
      have HH : Hid (true = (decide (0 ≤ k ∧ k < 7) && tb s k.toNat)) := Lib.hid (by rw [decide_eq_true h, hb]; rfl)
      clear hb h
      go_enter Try.func45, Try.ntmps45
      go_wp2_with (first | (go_at_call 44; refine (rHas_is s k true HH.out _).mono ?_; rintro e w1 ⟨rfl, hb⟩))
      go_ret
      exact ⟨ret_int HE.out.symm, hb⟩
    | false =>
      have HE := Lib.hid (withq_no s k h hb)
      have HH : Hid (false = (decide (0 ≤ k ∧ k < 7) && tb s k.toNat)) := Lib.hid (by rw [decide_eq_true h, hb]; rfl)
      obtain ⟨q, hq⟩ : ∃ q : Int, q = 2 ^ k.toNat := ⟨_, rfl⟩
      have HQ := Lib.hid hq
      have hp0 := h.1
      have hp7 := h.2
      clear hb hq
      go_enter Try.func45, Try.ntmps45
      go_wp2_with (first | (go_at_call 44; refine (rHas_is s k false HH.out _).mono ?_; rintro e w1 ⟨rfl, hb⟩) | (go_at_call 54; refine (power_is k hp0 hp7 q HQ.out _).mono ?_; rintro e w2 ⟨rfl, hb2⟩))
      go_ret
      exact ⟨ret_int (by rw [HE.out, HQ.out]), hb.trans (hb2.mono hb.size)⟩
  · have HE := Lib.hid (withq_yes s k rs (fun h1 => absurd h1 h))
    by_cases h1 : k < 0
    · have c0 : decide (k < 0) = true := decide_eq_true h1
      clear h h1
      go_enter Try.func45, Try.ntmps45
      go_wp2
      go_ret
      exact ⟨ret_int HE.out.symm, Below.refl _ _⟩
    · have c0 : decide (k < 0) = false := decide_eq_false h1
      have c6 : decide (6 < k) = true := decide_eq_true (by omega)
      clear h h1
      go_enter Try.func45, Try.ntmps45
      go_wp2
      go_ret
      exact ⟨ret_int HE.out.symm, Below.refl _ _⟩

set_option maxHeartbeats 4000000 in
theorem rqWithout_any (s k : Int) (rs : -9223372036854775808 ≤ s ∧ s ≤ 9223372036854775807) (w : World) :
    Calls Try.prog 46 #[.int .i64 s, .int .i64 k] w fun e w' => e = .returned (.int .i64 (withoutq s k)) ∧ Below w.heap.size w w' := by
  by_cases h : (0 ≤ k ∧ k < 7) ∧ tb s k.toNat = true
  · have HE := Lib.hid (withoutq_yes s k h.1 h.2)
    have HH : Hid (true = (decide (0 ≤ k ∧ k < 7) && tb s k.toNat)) := Lib.hid (by rw [decide_eq_true h.1, h.2]; rfl)
    obtain ⟨q, hq⟩ : ∃ q : Int, q = 2 ^ k.toNat := ⟨_, rfl⟩
    have HQ := Lib.hid hq
    have hp0 := h.1.1
    have hp7 := h.1.2
    clear h hq
    go_enter Try.func46, Try.ntmps46
    go_wp2_with (first | (go_at_call 44; refine (rHas_is s k true HH.out _).mono ?_; rintro e w1 ⟨rfl, hb⟩) | (go_at_call 54; refine (power_is k hp0 hp7 q HQ.out _).mono ?_; rintro e w2 ⟨rfl, hb2⟩))
    go_ret
    exact ⟨ret_int (by rw [HE.out, HQ.out]), hb.trans (hb2.mono hb.size)⟩
  · have HE := Lib.hid (withoutq_no s k rs (fun h1 => by
      cases hb : tb s k.toNat with
      | true => exact absurd ⟨h1, hb⟩ h
      | false => rfl))
    have HH : Hid (false = (decide (0 ≤ k ∧ k < 7) && tb s k.toNat)) := Lib.hid (by
      by_cases h1 : 0 ≤ k ∧ k < 7
      · cases hb : tb s k.toNat with
        | true => exact absurd ⟨h1, hb⟩ h
        | false => simp
      · rw [decide_eq_false h1]; rfl)
    clear h
    go_enter Try.func46, Try.ntmps46
    go_wp2_with (first | (go_at_call 44; refine (rHas_is s k false HH.out _).mono ?_; rintro e w1 ⟨rfl, hb⟩))
    go_ret
    exact ⟨ret_int HE.out.symm, hb⟩

set_option maxHeartbeats 1000000 in
theorem rmembers_any (s : Int) (w : World) :
    Calls Try.prog 43 #[.int .i64 s] w fun e w' => ∃ v, e = .returned v ∧ w'.ownsRow w.heap.size 3 1 v (mem s 7).length ((mem s 7).map (Value.int .i64)) ∧ Below w.heap.size w w' := by
  have hi : (Try.prog.info? 3).map (fun i => (i.zero, i.size, i.bytes)) = some (some (.int .i64 0), 1, 8) := by kernel_rfl
  have HI := Lib.hid hi
  clear hi
  go_enter Try.func43, Try.ntmps43
  go_wp2
  go_loopw [3, 4] (fun v i wr => ∃ k : Nat, k ≤ 7 ∧ i = .int .i64 k ∧ Hid (wr.ownsRow w.heap.size 3 1 v (mem s k).length ((mem s k).map (Value.int .i64))) ∧ Hid (Below w.heap.size w wr)) (fun _ i _ => 7 - (intOf i).toNat)
  case atStart => exact ⟨0, by omega, rfl, by rw [mem_zero]; exact own_none _ _ _ _, Below.refl _ _⟩
  case round =>
    obtain ⟨k, hk, rfl, hown, hb⟩ := hrel
    by_cases hlt : k < 7
    · have hle := mem_le s k
      have hB := hb.out.size
      have hk6 : (k : Int) ≤ 6 := by omega
      cases hbit : tb s k with
      | true =>
        have HT := Lib.hid hbit
        clear hbit
        go_wp2_with (first | (go_at_call 44; refine (rHas_is _ _ true (by rw [Int.toNat_natCast, HT.out]; simp; omega) _).mono ?_; rintro e w1 ⟨rfl, hb1⟩; have hown1 := Lib.hid (own_step hown.out hb1); have hbb := Lib.hid (hb.out.trans (hb1.mono hB)); have hB1 := hb1.size; clear hb1) | (at_builtin; refine append_one (w0 := w) w.heap.size rfl (.tmp 12) (.tmp 14) 38 3 (.int .i64 0) 1 8 rfl Try.underlying38 HI.out rfl (by decide) (by decide) _ _ _ [.int .i64 (k : Int)] rfl rfl rfl (by simp [Value.oneCell']) hown1.out hbb.out (by omega) (by omega) ?_; intro v1 w2 hown2 hb2 hs2; have hown3 := Lib.hid hown2; have hb3 := Lib.hid hb2; clear hown2 hb2))
        go_roundw
        case rel => exact ⟨k + 1, by omega, by go_num, by rw [mem_yes s k HT.out]; exact Lib.hid (by simpa using hown3.out), hb3⟩
        case measure => simp [intOf]; omega
      | false =>
        have HT := Lib.hid hbit
        clear hbit
        go_wp2_with (go_at_call 44; refine (rHas_is _ _ false (by rw [Int.toNat_natCast, HT.out]; simp) _).mono ?_; rintro e w1 ⟨rfl, hb1⟩; have hown1 := Lib.hid (own_step hown.out hb1); have hbb := Lib.hid (hb.out.trans (hb1.mono hB)); clear hb1)
        go_roundw
        case rel => exact ⟨k + 1, by omega, by go_num, by rw [mem_no s k HT.out]; exact hown1, hbb⟩
        case measure => simp [intOf]; omega
    · have hk7 : k = 7 := by omega
      subst hk7
      go_wp2
      go_ret
      exact ⟨_, rfl, hown.out, hb.out⟩

set_option maxHeartbeats 1000000 in
theorem rcount_is (s x : Int) (hx : x = (mem s 7).length) (w : World) :
    Calls Try.prog 47 #[.int .i64 s] w fun e w' => e = .returned (.int .i64 x) ∧ Below w.heap.size w w' := by
  subst hx
  go_enter Try.func47, Try.ntmps47
  go_wp2_with (go_at_call 43; refine (rmembers_any _ _).mono ?_; rintro e w1 ⟨v, rfl, hown, hb⟩; obtain ⟨A, c, rfl⟩ : ∃ A c, v = .slice A (mem s 7).length c := (by rcases hown.2 with ⟨rfl, h0⟩ | ⟨g, cap, cur, rfl, _⟩; exact ⟨none, 0, (by rw [h0])⟩; exact ⟨_, _, rfl⟩); clear hown; have HB := Lib.hid hb; clear hb)
  go_ret
  exact ⟨rfl, HB.out⟩

theorem maj_len (f s : Int) : (mem (bits .and .i64 s (allq f)) 7).length = (mem s (sz f).toNat).length := by
  rcases f_cases f with rfl | rfl | rfl | ⟨n1, n2, n3⟩
  · rw [show (sz 1).toNat = 3 from rfl]; simp [allq, mem7, bn, tb_and, tb_7, mem_len, mem_zero]
  · rw [show (sz 2).toNat = 5 from rfl]; simp [allq, mem7, bn, tb_and, tb_31, mem_len, mem_zero]
  · rw [show (sz 3).toNat = 7 from rfl]; simp [allq, mem7, bn, tb_and, tb_127, mem_len, mem_zero]
  · simp [sz, allq, n1, n2, n3, mem7, bn, tb_and, tb_0, mem_zero]
set_option maxHeartbeats 4000000 in
theorem rmajor_is (f s : Int) (x : Bool) (hx : x = decide (maj f s)) (w : World) :
    Calls Try.prog 48 #[.int .i64 f, .int .i64 s] w fun e w' => e = .returned (.bool x) ∧ Below w.heap.size w w' := by
  have hz := szsl f
  obtain ⟨z, hzz⟩ : ∃ z : Int, z = sz f := ⟨_, rfl⟩
  obtain ⟨q, hq⟩ : ∃ q : Int, q = slw f := ⟨_, rfl⟩
  have hx2 : x = decide (0 < q ∧ q ≤ (mem s z.toNat).length) := by rw [hx, hq, hzz, decide_eq_decide]; unfold maj; rw [maj_len]
  have hz7 : 0 ≤ z ∧ z ≤ 7 := by omega
  have hq0 : 0 < z ↔ 0 < q := by omega
  have HZ := Lib.hid hzz
  have HQ := Lib.hid hq
  have HX := Lib.hid hx2
  clear hz hx hx2 hzz hq
  go_enter Try.func48, Try.ntmps48
  go_wp2
  go_loopw [5, 6] (fun n i wr => ∃ k : Nat, k ≤ z.toNat ∧ i = .int .i64 k ∧ n = .int .i64 ((mem s k).length : Int) ∧ Hid (Below w.heap.size w wr)) (fun _ i _ => z.toNat - (intOf i).toNat)
  case atStart => exact ⟨0, by omega, rfl, rfl, Lib.hid (Below.refl _ _)⟩
  case round =>
    obtain ⟨k, hk, rfl, rfl, hb⟩ := hrel
    have hB := hb.out.size
    have hle := mem_le s k
    by_cases hlt : (k : Int) < z
    · cases hbit : tb s k with
      | true =>
        have HT := Lib.hid hbit
        clear hbit
        go_wp2_with (first | (go_at_call 23; refine (rSize_is f z HZ.out _).mono ?_; rintro e w1 ⟨rfl, hb1⟩; have hbb := Lib.hid (hb.out.trans (hb1.mono hB)); clear hb1; have hB1 := hbb.out.size) | (go_at_call 44; refine (rHas_is _ _ true (by rw [Int.toNat_natCast, HT.out]; simp; omega) _).mono ?_; rintro e w2 ⟨rfl, hb1⟩; have hb3 := Lib.hid (hbb.out.trans (hb1.mono hB1)); clear hb1))
        go_roundw
        case rel => exact ⟨k + 1, by omega, by go_num, by rw [mem_yes s k HT.out]; simp, hb3⟩
        case measure => simp [intOf]; omega
      | false =>
        have HT := Lib.hid hbit
        clear hbit
        go_wp2_with (first | (go_at_call 23; refine (rSize_is f z HZ.out _).mono ?_; rintro e w1 ⟨rfl, hb1⟩; have hbb := Lib.hid (hb.out.trans (hb1.mono hB)); clear hb1; have hB1 := hbb.out.size) | (go_at_call 44; refine (rHas_is _ _ false (by rw [Int.toNat_natCast, HT.out]; simp) _).mono ?_; rintro e w2 ⟨rfl, hb1⟩; have hb3 := Lib.hid (hbb.out.trans (hb1.mono hB1)); clear hb1))
        go_roundw
        case rel => exact ⟨k + 1, by omega, by go_num, by rw [mem_no s k HT.out], hb3⟩
        case measure => simp [intOf]; omega
    · have hk7 : k = z.toNat := by omega
      have HX2 : Hid (x = decide (0 < q ∧ q ≤ ((mem s k).length : Int))) := Lib.hid (by rw [hk7]; exact HX.out)
      clear hk7 HX
      by_cases c0 : 0 < z
      · have d0 : decide (0 < z) = true := decide_eq_true c0
        have hq1 := hq0.1 c0
        clear hq0
        go_wp2_with (first | (go_at_call 23; refine (rSize_is f z HZ.out _).mono ?_; rintro e w1 ⟨rfl, hb1⟩; have hbb := Lib.hid (hb.out.trans (hb1.mono hB)); clear hb1 hb; have hb := hbb; clear hbb; have hB := hb.out.size) | (go_at_call 24; refine (rSlow_is f q HQ.out _).mono ?_; rintro e w1 ⟨rfl, hb1⟩; have hbb := Lib.hid (hb.out.trans (hb1.mono hB)); clear hb1))
        go_ret
        exact ⟨ret_bool (by rw [HX2.out]; simp [hq1]), hbb.out⟩
      · have d0 : decide (0 < z) = false := decide_eq_false c0
        have hq1 : ¬ 0 < q := fun h => c0 (hq0.2 h)
        clear hq0
        go_wp2_with (first | (go_at_call 23; refine (rSize_is f z HZ.out _).mono ?_; rintro e w1 ⟨rfl, hb1⟩; have hbb := Lib.hid (hb.out.trans (hb1.mono hB)); clear hb1 hb; have hb := hbb; clear hbb; have hB := hb.out.size))
        go_ret
        exact ⟨ret_bool (by rw [HX2.out]; simp; omega), hb.out⟩

end Go.Proofs.Ythnmccolfckhdaa
