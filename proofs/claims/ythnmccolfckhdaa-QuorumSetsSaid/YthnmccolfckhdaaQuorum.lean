/- What the functions of package quorum compute. -/
import Derived.Test.YthnmccolfckhdaaAppend
import Derived.Test.YthnmccolfckhdaaBits
namespace Go.Proofs.Ythnmccolfckhdaa
open Go.RowKit
set_option linter.unusedSimpArgs false
set_option linter.unusedVariables false
attribute [local go_sem] max2_int max_two min2_int min_two Ext.cell Ext.frozen Ext.cell_set szlt1 szlt2 szlt3 szlt4 szlt5 szlt6
attribute [local simp] szlt1 szlt2 szlt3 szlt4 szlt5 szlt6

/-- How many replicas, a majority, a fast quorum; the set of all. -/
def sz (f : Int) : Int := if f = 1 then 3 else if f = 2 then 5 else if f = 3 then 7 else 0
def slw (f : Int) : Int := if f = 1 then 2 else if f = 2 then 3 else if f = 3 then 4 else 0
def fst_ (f : Int) : Int := if f = 1 then 2 else if f = 2 then 4 else if f = 3 then 6 else 0
def allq (f : Int) : Int := if f = 1 then 7 else if f = 2 then 31 else if f = 3 then 127 else 0
theorem f_cases (f : Int) : f = 1 ∨ f = 2 ∨ f = 3 ∨ (¬ f = 1 ∧ ¬ f = 2 ∧ ¬ f = 3) := by omega
theorem k_cases (r : Int) : r = 0 ∨ r = 1 ∨ r = 2 ∨ r = 3 ∨ r = 4 ∨ r = 5 ∨ r = 6 ∨ ¬ (0 ≤ r ∧ r < 7) := by omega
theorem idx3 (w : World) (cs : Array Value) (i : Int) (h0 : 0 ≤ i) (h1 : i < 3) (hc : cs.size = 3) : (Instr.index 47 (.agg cs) (.int .i64 i)).run Try.prog w = .ok (cs.getD i.toNat undef) w :=
  run_index_arr 47 3 3 .i64 .i64 Try.underlying47 Try.underlying3 (by kernel_rfl) w cs i h0 h1 hc
attribute [local go_sem] idx3

set_option maxHeartbeats 1000000 in
theorem sizes_any (f : Int) (v : Value) (hv : v = .agg #[.int .i64 (sz f), .int .i64 (slw f), .int .i64 (fst_ f)]) (w : World) :
    Calls Try.prog 52 #[.int .i64 f] w fun e w' => e = .returned v ∧ Below w.heap.size w w' := by
  have HV := Lib.hid hv
  clear hv
  rcases f_cases f with rfl | rfl | rfl | ⟨h1, h2, h3⟩
  case' inr.inr.inr =>
    by_cases hlt : f < 1
    all_goals
      have hb := hlt
      first
        | (replace hb : decide (f < 1) = true := decide_eq_true hlt)
        | (replace hb : decide (f < 1) = false := decide_eq_false hlt; have hg : decide (3 < f) = true := decide_eq_true (by omega))
      go_enter Try.func52, Try.ntmps52
      go_wp2
      exact bodyPost_ret (v := .agg #[.int .i64 0, .int .i64 0, .int .i64 0]) (by simp [results, Try.results52, go_sem]) rfl ⟨by rw [HV.out]; simp [sz, slw, fst_, h1, h2, h3], by (repeat' (first | (with_reducible exact Below.refl _ _) | (with_reducible assumption) | (with_reducible refine Below.setCell ?_ ?_ _) | (with_reducible refine Below.alloc ?_ ?_ _) | (with_reducible refine Below.drew ?_) | (with_reducible refine below_drewN ?_ _) | (with_reducible refine Ext.grown _ ?_ ?_) | (with_reducible exact Nat.le_refl _) | omega | (simp only [World.size_alloc, World.size_setCell, World.size_drew]; omega) | (simp; omega) | (simp; done)))⟩
  all_goals
    go_enter Try.func52, Try.ntmps52
    go_wp2
    refine bodyPost_ret (v := v) (by rw [HV.out]; simp [results, Try.results52, go_sem, sz, slw, fst_]) rfl ⟨rfl, ?_⟩
    (repeat' (first | (with_reducible exact Below.refl _ _) | (with_reducible assumption) | (with_reducible refine Below.setCell ?_ ?_ _) | (with_reducible refine Below.alloc ?_ ?_ _) | (with_reducible refine Below.drew ?_) | (with_reducible refine below_drewN ?_ _) | (with_reducible refine Ext.grown _ ?_ ?_) | (with_reducible exact Nat.le_refl _) | omega | (simp only [World.size_alloc, World.size_setCell, World.size_drew]; omega) | (simp; omega) | (simp; done)))

set_option maxHeartbeats 1000000 in
theorem Size_any (f : Int) (w : World) :
    Calls Try.prog 20 #[.int .i64 f] w fun e w' => e = .returned (.int .i64 (sz f)) ∧ Below w.heap.size w w' := by
  go_enter Try.func20, Try.ntmps20
  go_wp2_with (refine (sizes_any _ _ rfl _).mono ?_; rintro e w1 ⟨rfl, hb⟩)
  go_ret
  exact ⟨rfl, hb⟩

set_option maxHeartbeats 1000000 in
theorem Slow_any (f : Int) (w : World) :
    Calls Try.prog 21 #[.int .i64 f] w fun e w' => e = .returned (.int .i64 (slw f)) ∧ Below w.heap.size w w' := by
  go_enter Try.func21, Try.ntmps21
  go_wp2_with (refine (sizes_any _ _ rfl _).mono ?_; rintro e w1 ⟨rfl, hb⟩)
  go_ret
  exact ⟨rfl, hb⟩

set_option maxHeartbeats 1000000 in
theorem Fast_any (f : Int) (w : World) :
    Calls Try.prog 22 #[.int .i64 f] w fun e w' => e = .returned (.int .i64 (fst_ f)) ∧ Below w.heap.size w w' := by
  go_enter Try.func22, Try.ntmps22
  go_wp2_with (refine (sizes_any _ _ rfl _).mono ?_; rintro e w1 ⟨rfl, hb⟩)
  go_ret
  exact ⟨rfl, hb⟩

set_option maxHeartbeats 1000000 in
theorem quIs_is (k : Int) (x : Bool) (hx : x = decide (0 ≤ k ∧ k < 7)) (w : World) :
    Calls Try.prog 53 #[.int .i64 k] w fun e w' => e = .returned (.bool x) ∧ Below w.heap.size w w' := by
  have H := Lib.hid hx
  clear hx
  go_enter Try.func53, Try.ntmps53
  go_wp2
  all_goals
    go_ret
    exact ⟨ret_bool (by rw [H.out, Bool.eq_iff_iff]; simp; omega), by (repeat' (first | (with_reducible exact Below.refl _ _) | (with_reducible assumption) | (with_reducible refine Below.setCell ?_ ?_ _) | (with_reducible refine Below.alloc ?_ ?_ _) | (with_reducible refine Below.drew ?_) | (with_reducible refine below_drewN ?_ _) | (with_reducible refine Ext.grown _ ?_ ?_) | (with_reducible exact Nat.le_refl _) | omega | (simp only [World.size_alloc, World.size_setCell, World.size_drew]; omega) | (simp; omega) | (simp; done)))⟩

set_option maxHeartbeats 1000000 in
theorem quHas_is (s k : Int) (x : Bool) (hx : x = (decide (0 ≤ k ∧ k < 7) && tb s k.toNat)) (w : World) :
    Calls Try.prog 30 #[.int .i64 s, .int .i64 k] w fun e w' => e = .returned (.bool x) ∧ Below w.heap.size w w' := by
  have H := Lib.hid hx
  clear hx
  rcases k_cases k with rfl | rfl | rfl | rfl | rfl | rfl | rfl | hk
  case' inr.inr.inr.inr.inr.inr.inr =>
    go_enter Try.func30, Try.ntmps30
    go_wp2_with (refine (quIs_is _ false (by simp; omega) _).mono ?_; rintro e w1 ⟨rfl, hb⟩)
    go_ret
    exact ⟨ret_bool (by rw [H.out]; simp; omega), hb⟩
  all_goals
    go_enter Try.func30, Try.ntmps30
    go_wp2_with (refine (quIs_is _ true (by simp) _).mono ?_; rintro e w1 ⟨rfl, hb⟩)
    go_ret
    exact ⟨ret_bool (by rw [H.out]; first | simpa using has_bit s 0 (by omega) | simpa using has_bit s 1 (by omega) | simpa using has_bit s 2 (by omega) | simpa using has_bit s 3 (by omega) | simpa using has_bit s 4 (by omega) | simpa using has_bit s 5 (by omega) | simpa using has_bit s 6 (by omega)), hb⟩

set_option maxHeartbeats 1000000 in
theorem members_any (s : Int) (w : World) :
    Calls Try.prog 32 #[.int .i64 s] w fun e w' => ∃ v, e = .returned v ∧ w'.ownsRow w.heap.size 3 1 v (mem s 7).length ((mem s 7).map (Value.int .i64)) ∧ Below w.heap.size w w' := by
  have hi : (Try.prog.info? 3).map (fun i => (i.zero, i.size, i.bytes)) = some (some (.int .i64 0), 1, 8) := by kernel_rfl
  have HI := Lib.hid hi
  clear hi
  go_enter Try.func32, Try.ntmps32
  go_wp2
  go_loopw [3, 5] (fun v i wr => ∃ k : Nat, k ≤ 7 ∧ i = .int .i64 k ∧ Hid (wr.ownsRow w.heap.size 3 1 v (mem s k).length ((mem s k).map (Value.int .i64))) ∧ Hid (Below w.heap.size w wr)) (fun _ i _ => 7 - (intOf i).toNat)
  case atStart => exact ⟨0, by omega, rfl, by rw [mem_zero]; exact own_none _ _ _ _, Below.refl _ _⟩
  case round =>
    obtain ⟨k, hk, rfl, hown, hb⟩ := hrel
    by_cases hlt : k < 7
    · have hle := mem_le s k
      have hB := hb.out.size
      cases hbit : tb s k with
      | true =>
        have HT := Lib.hid hbit
        clear hbit
        go_wp2_with (first | (go_at_call 30; refine (quHas_is _ _ true (by rw [Int.toNat_natCast, HT.out]; simp; omega) _).mono ?_; rintro e w1 ⟨rfl, hb1⟩; have hown1 := Lib.hid (own_step hown.out hb1); have hbb := Lib.hid (hb.out.trans (hb1.mono hB)); have hB1 := hb1.size; clear hb1) | (at_builtin; refine append_one (w0 := w) w.heap.size rfl (.tmp 11) (.tmp 13) 38 3 (.int .i64 0) 1 8 rfl Try.underlying38 HI.out rfl (by decide) (by decide) _ _ _ [.int .i64 (k : Int)] rfl rfl rfl (by simp [Value.oneCell']) hown1.out hbb.out (by omega) (by omega) ?_; intro v1 w2 hown2 hb2 hs2; have hown3 := Lib.hid hown2; have hb3 := Lib.hid hb2; clear hown2 hb2))
        go_roundw
        case rel => exact ⟨k + 1, by omega, by go_num, by rw [mem_yes s k HT.out]; exact Lib.hid (by simpa using hown3.out), hb3⟩
        case measure => simp [intOf]; omega
      | false =>
        have HT := Lib.hid hbit
        clear hbit
        go_wp2_with (go_at_call 30; refine (quHas_is _ _ false (by rw [Int.toNat_natCast, HT.out]; simp) _).mono ?_; rintro e w1 ⟨rfl, hb1⟩; have hown1 := Lib.hid (own_step hown.out hb1); have hbb := Lib.hid (hb.out.trans (hb1.mono hB)); clear hb1)
        go_roundw
        case rel => exact ⟨k + 1, by omega, by go_num, by rw [mem_no s k HT.out]; exact hown1, hbb⟩
        case measure => simp [intOf]; omega
    · have hk7 : k = 7 := by omega
      subst hk7
      go_wp2
      go_ret
      exact ⟨_, rfl, hown.out, hb.out⟩

end Go.Proofs.Ythnmccolfckhdaa
