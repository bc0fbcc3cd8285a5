/- What Join of package deps' reference computes. -/
import Derived.Test.YthnmccolfckhdaaDeps
namespace Go.Proofs.Ythnmccolfckhdaa
open Go.RowKit
set_option linter.unusedSimpArgs false
set_option linter.unusedVariables false
attribute [local go_sem] eqDeps max2_int max_two min2_int min_two idxDeps Ext.cell Ext.frozen Ext.cell_set szlt1 szlt2 szlt3 szlt4 szlt5 szlt6
attribute [local simp] szlt1 szlt2 szlt3 szlt4

set_option maxHeartbeats 8000000 in
theorem rJoin_any (a0 a1 a2 a3 a4 a5 a6 b0 b1 b2 b3 b4 b5 b6 : Int) (w : World) :
    Calls Try.prog 36 #[.agg #[.int .i64 a0, .int .i64 a1, .int .i64 a2, .int .i64 a3, .int .i64 a4, .int .i64 a5, .int .i64 a6], .agg #[.int .i64 b0, .int .i64 b1, .int .i64 b2, .int .i64 b3, .int .i64 b4, .int .i64 b5, .int .i64 b6]] w fun e w' => e = .returned (.agg #[.int .i64 (max a0 b0), .int .i64 (max a1 b1), .int .i64 (max a2 b2), .int .i64 (max a3 b3), .int .i64 (max a4 b4), .int .i64 (max a5 b5), .int .i64 (max a6 b6)]) ∧ Below w.heap.size w w' := by
  go_enter Try.func36, Try.ntmps36
  go_wp2
  go_loopw [6] (fun i wr => ∃ k : Nat, k ≤ 7 ∧ i = .int .i64 k ∧ (wr.cell? ⟨w.heap.size + 1 + 1 + 1, 0, none⟩ = some (.int .i64 (if 0 < k then max a0 b0 else 0)) ∧ wr.frozen? ⟨w.heap.size + 1 + 1 + 1, 0, none⟩ = false ∧ wr.cell? ⟨w.heap.size + 1 + 1 + 1, 1, none⟩ = some (.int .i64 (if 1 < k then max a1 b1 else 0)) ∧ wr.frozen? ⟨w.heap.size + 1 + 1 + 1, 1, none⟩ = false ∧ wr.cell? ⟨w.heap.size + 1 + 1 + 1, 2, none⟩ = some (.int .i64 (if 2 < k then max a2 b2 else 0)) ∧ wr.frozen? ⟨w.heap.size + 1 + 1 + 1, 2, none⟩ = false ∧ wr.cell? ⟨w.heap.size + 1 + 1 + 1, 3, none⟩ = some (.int .i64 (if 3 < k then max a3 b3 else 0)) ∧ wr.frozen? ⟨w.heap.size + 1 + 1 + 1, 3, none⟩ = false ∧ wr.cell? ⟨w.heap.size + 1 + 1 + 1, 4, none⟩ = some (.int .i64 (if 4 < k then max a4 b4 else 0)) ∧ wr.frozen? ⟨w.heap.size + 1 + 1 + 1, 4, none⟩ = false ∧ wr.cell? ⟨w.heap.size + 1 + 1 + 1, 5, none⟩ = some (.int .i64 (if 5 < k then max a5 b5 else 0)) ∧ wr.frozen? ⟨w.heap.size + 1 + 1 + 1, 5, none⟩ = false ∧ wr.cell? ⟨w.heap.size + 1 + 1 + 1, 6, none⟩ = some (.int .i64 (if 6 < k then max a6 b6 else 0)) ∧ wr.frozen? ⟨w.heap.size + 1 + 1 + 1, 6, none⟩ = false) ∧ Below (w.heap.size + 1 + 1 + 1) (((w.alloc (.cells #[.int .i64 a0, .int .i64 a1, .int .i64 a2, .int .i64 a3, .int .i64 a4, .int .i64 a5, .int .i64 a6] 23)).alloc (.cells #[.int .i64 b0, .int .i64 b1, .int .i64 b2, .int .i64 b3, .int .i64 b4, .int .i64 b5, .int .i64 b6] 23)).alloc (.cells #[.int .i64 0, .int .i64 0, .int .i64 0, .int .i64 0, .int .i64 0, .int .i64 0, .int .i64 0] 23)) wr ∧ w.heap.size + 1 + 1 + 1 + 1 ≤ wr.heap.size) (fun i _ => 7 - (intOf i).toNat)
  case atStart => exact ⟨0, by omega, rfl, by simp [go_sem], by (repeat' (first | (with_reducible exact Below.refl _ _) | (with_reducible assumption) | (with_reducible refine Below.setCell ?_ ?_ _) | (with_reducible refine Below.alloc ?_ ?_ _) | (with_reducible refine Below.drew ?_) | (with_reducible refine below_drewN ?_ _) | (with_reducible refine Ext.grown _ ?_ ?_) | (with_reducible exact Nat.le_refl _) | omega | (simp only [World.size_alloc, World.size_setCell, World.size_drew]; omega) | (simp; omega) | (simp; done))), by simp⟩
  case round =>
    obtain ⟨k, hk, rfl, ⟨c0, f0, c1, f1, c2, f2, c3, f3, c4, f4, c5, f5, c6, f6⟩, hb, hsz⟩ := hrel
    have a_0 : wr.cell? ⟨w.heap.size, 0, none⟩ = some (.int .i64 a0) := (hb.cell (p := ⟨w.heap.size, 0, none⟩) (by simp)).trans (by simp [go_sem])
    have b_0 : wr.cell? ⟨w.heap.size + 1, 0, none⟩ = some (.int .i64 b0) := (hb.cell (p := ⟨w.heap.size + 1, 0, none⟩) (by simp)).trans (by simp [go_sem])
    have a_1 : wr.cell? ⟨w.heap.size, 1, none⟩ = some (.int .i64 a1) := (hb.cell (p := ⟨w.heap.size, 1, none⟩) (by simp)).trans (by simp [go_sem])
    have b_1 : wr.cell? ⟨w.heap.size + 1, 1, none⟩ = some (.int .i64 b1) := (hb.cell (p := ⟨w.heap.size + 1, 1, none⟩) (by simp)).trans (by simp [go_sem])
    have a_2 : wr.cell? ⟨w.heap.size, 2, none⟩ = some (.int .i64 a2) := (hb.cell (p := ⟨w.heap.size, 2, none⟩) (by simp)).trans (by simp [go_sem])
    have b_2 : wr.cell? ⟨w.heap.size + 1, 2, none⟩ = some (.int .i64 b2) := (hb.cell (p := ⟨w.heap.size + 1, 2, none⟩) (by simp)).trans (by simp [go_sem])
    have a_3 : wr.cell? ⟨w.heap.size, 3, none⟩ = some (.int .i64 a3) := (hb.cell (p := ⟨w.heap.size, 3, none⟩) (by simp)).trans (by simp [go_sem])
    have b_3 : wr.cell? ⟨w.heap.size + 1, 3, none⟩ = some (.int .i64 b3) := (hb.cell (p := ⟨w.heap.size + 1, 3, none⟩) (by simp)).trans (by simp [go_sem])
    have a_4 : wr.cell? ⟨w.heap.size, 4, none⟩ = some (.int .i64 a4) := (hb.cell (p := ⟨w.heap.size, 4, none⟩) (by simp)).trans (by simp [go_sem])
    have b_4 : wr.cell? ⟨w.heap.size + 1, 4, none⟩ = some (.int .i64 b4) := (hb.cell (p := ⟨w.heap.size + 1, 4, none⟩) (by simp)).trans (by simp [go_sem])
    have a_5 : wr.cell? ⟨w.heap.size, 5, none⟩ = some (.int .i64 a5) := (hb.cell (p := ⟨w.heap.size, 5, none⟩) (by simp)).trans (by simp [go_sem])
    have b_5 : wr.cell? ⟨w.heap.size + 1, 5, none⟩ = some (.int .i64 b5) := (hb.cell (p := ⟨w.heap.size + 1, 5, none⟩) (by simp)).trans (by simp [go_sem])
    have a_6 : wr.cell? ⟨w.heap.size, 6, none⟩ = some (.int .i64 a6) := (hb.cell (p := ⟨w.heap.size, 6, none⟩) (by simp)).trans (by simp [go_sem])
    have b_6 : wr.cell? ⟨w.heap.size + 1, 6, none⟩ = some (.int .i64 b6) := (hb.cell (p := ⟨w.heap.size + 1, 6, none⟩) (by simp)).trans (by simp [go_sem])
    have z_0 : wr.cell? ⟨w.heap.size + 1 + 1, 0, none⟩ = some (.int .i64 0) := (hb.cell (p := ⟨w.heap.size + 1 + 1, 0, none⟩) (by simp)).trans (by simp [go_sem])
    have y_0 : wr.frozen? ⟨w.heap.size + 1 + 1, 0, none⟩ = false := (hb.frozen (p := ⟨w.heap.size + 1 + 1, 0, none⟩) (by simp)).trans (by simp [go_sem])
    have z_1 : wr.cell? ⟨w.heap.size + 1 + 1, 1, none⟩ = some (.int .i64 0) := (hb.cell (p := ⟨w.heap.size + 1 + 1, 1, none⟩) (by simp)).trans (by simp [go_sem])
    have y_1 : wr.frozen? ⟨w.heap.size + 1 + 1, 1, none⟩ = false := (hb.frozen (p := ⟨w.heap.size + 1 + 1, 1, none⟩) (by simp)).trans (by simp [go_sem])
    have z_2 : wr.cell? ⟨w.heap.size + 1 + 1, 2, none⟩ = some (.int .i64 0) := (hb.cell (p := ⟨w.heap.size + 1 + 1, 2, none⟩) (by simp)).trans (by simp [go_sem])
    have y_2 : wr.frozen? ⟨w.heap.size + 1 + 1, 2, none⟩ = false := (hb.frozen (p := ⟨w.heap.size + 1 + 1, 2, none⟩) (by simp)).trans (by simp [go_sem])
    have z_3 : wr.cell? ⟨w.heap.size + 1 + 1, 3, none⟩ = some (.int .i64 0) := (hb.cell (p := ⟨w.heap.size + 1 + 1, 3, none⟩) (by simp)).trans (by simp [go_sem])
    have y_3 : wr.frozen? ⟨w.heap.size + 1 + 1, 3, none⟩ = false := (hb.frozen (p := ⟨w.heap.size + 1 + 1, 3, none⟩) (by simp)).trans (by simp [go_sem])
    have z_4 : wr.cell? ⟨w.heap.size + 1 + 1, 4, none⟩ = some (.int .i64 0) := (hb.cell (p := ⟨w.heap.size + 1 + 1, 4, none⟩) (by simp)).trans (by simp [go_sem])
    have y_4 : wr.frozen? ⟨w.heap.size + 1 + 1, 4, none⟩ = false := (hb.frozen (p := ⟨w.heap.size + 1 + 1, 4, none⟩) (by simp)).trans (by simp [go_sem])
    have z_5 : wr.cell? ⟨w.heap.size + 1 + 1, 5, none⟩ = some (.int .i64 0) := (hb.cell (p := ⟨w.heap.size + 1 + 1, 5, none⟩) (by simp)).trans (by simp [go_sem])
    have y_5 : wr.frozen? ⟨w.heap.size + 1 + 1, 5, none⟩ = false := (hb.frozen (p := ⟨w.heap.size + 1 + 1, 5, none⟩) (by simp)).trans (by simp [go_sem])
    have z_6 : wr.cell? ⟨w.heap.size + 1 + 1, 6, none⟩ = some (.int .i64 0) := (hb.cell (p := ⟨w.heap.size + 1 + 1, 6, none⟩) (by simp)).trans (by simp [go_sem])
    have y_6 : wr.frozen? ⟨w.heap.size + 1 + 1, 6, none⟩ = false := (hb.frozen (p := ⟨w.heap.size + 1 + 1, 6, none⟩) (by simp)).trans (by simp [go_sem])
    have HB := Lib.hid hb
    clear hb
    rcases (by omega : k = 0 ∨ k = 1 ∨ k = 2 ∨ k = 3 ∨ k = 4 ∨ k = 5 ∨ k = 6 ∨ k = 7) with rfl | rfl | rfl | rfl | rfl | rfl | rfl | rfl
    · try simp at c0 c1 c2 c3 c4 c5 c6
      go_wp2
      go_quiet (fail)
      go_wp2
      all_goals
        go_roundw
        case rel =>
          refine ⟨1, by omega, rfl, ?_, ?_, ?_⟩
          · simp [go_sem, c0, c1, c2, c3, c4, c5, c6, f0, f1, f2, f3, f4, f5, f6] <;> omega
          · have hb := HB.out
            (repeat' (first | (with_reducible exact Below.refl _ _) | (with_reducible assumption) | (with_reducible refine Below.setCell ?_ ?_ _) | (with_reducible refine Below.alloc ?_ ?_ _) | (with_reducible refine Below.drew ?_) | (with_reducible refine below_drewN ?_ _) | (with_reducible refine Ext.grown _ ?_ ?_) | (with_reducible exact Nat.le_refl _) | omega | (simp only [World.size_alloc, World.size_setCell, World.size_drew]; omega) | (simp; omega) | (simp; done)))
          · simp; omega
        case measure => simp [intOf]
    · try simp at c0 c1 c2 c3 c4 c5 c6
      go_wp2
      go_quiet (fail)
      go_wp2
      all_goals
        go_roundw
        case rel =>
          refine ⟨2, by omega, rfl, ?_, ?_, ?_⟩
          · simp [go_sem, c0, c1, c2, c3, c4, c5, c6, f0, f1, f2, f3, f4, f5, f6] <;> omega
          · have hb := HB.out
            (repeat' (first | (with_reducible exact Below.refl _ _) | (with_reducible assumption) | (with_reducible refine Below.setCell ?_ ?_ _) | (with_reducible refine Below.alloc ?_ ?_ _) | (with_reducible refine Below.drew ?_) | (with_reducible refine below_drewN ?_ _) | (with_reducible refine Ext.grown _ ?_ ?_) | (with_reducible exact Nat.le_refl _) | omega | (simp only [World.size_alloc, World.size_setCell, World.size_drew]; omega) | (simp; omega) | (simp; done)))
          · simp; omega
        case measure => simp [intOf]
    · try simp at c0 c1 c2 c3 c4 c5 c6
      go_wp2
      go_quiet (fail)
      go_wp2
      all_goals
        go_roundw
        case rel =>
          refine ⟨3, by omega, rfl, ?_, ?_, ?_⟩
          · simp [go_sem, c0, c1, c2, c3, c4, c5, c6, f0, f1, f2, f3, f4, f5, f6] <;> omega
          · have hb := HB.out
            (repeat' (first | (with_reducible exact Below.refl _ _) | (with_reducible assumption) | (with_reducible refine Below.setCell ?_ ?_ _) | (with_reducible refine Below.alloc ?_ ?_ _) | (with_reducible refine Below.drew ?_) | (with_reducible refine below_drewN ?_ _) | (with_reducible refine Ext.grown _ ?_ ?_) | (with_reducible exact Nat.le_refl _) | omega | (simp only [World.size_alloc, World.size_setCell, World.size_drew]; omega) | (simp; omega) | (simp; done)))
          · simp; omega
        case measure => simp [intOf]
    · try simp at c0 c1 c2 c3 c4 c5 c6
      go_wp2
      go_quiet (fail)
      go_wp2
      all_goals
        go_roundw
        case rel =>
          refine ⟨4, by omega, rfl, ?_, ?_, ?_⟩
          · simp [go_sem, c0, c1, c2, c3, c4, c5, c6, f0, f1, f2, f3, f4, f5, f6] <;> omega
          · have hb := HB.out
            (repeat' (first | (with_reducible exact Below.refl _ _) | (with_reducible assumption) | (with_reducible refine Below.setCell ?_ ?_ _) | (with_reducible refine Below.alloc ?_ ?_ _) | (with_reducible refine Below.drew ?_) | (with_reducible refine below_drewN ?_ _) | (with_reducible refine Ext.grown _ ?_ ?_) | (with_reducible exact Nat.le_refl _) | omega | (simp only [World.size_alloc, World.size_setCell, World.size_drew]; omega) | (simp; omega) | (simp; done)))
          · simp; omega
        case measure => simp [intOf]
    · try simp at c0 c1 c2 c3 c4 c5 c6
      go_wp2
      go_quiet (fail)
      go_wp2
      all_goals
        go_roundw
        case rel =>
          refine ⟨5, by omega, rfl, ?_, ?_, ?_⟩
          · simp [go_sem, c0, c1, c2, c3, c4, c5, c6, f0, f1, f2, f3, f4, f5, f6] <;> omega
          · have hb := HB.out
            (repeat' (first | (with_reducible exact Below.refl _ _) | (with_reducible assumption) | (with_reducible refine Below.setCell ?_ ?_ _) | (with_reducible refine Below.alloc ?_ ?_ _) | (with_reducible refine Below.drew ?_) | (with_reducible refine below_drewN ?_ _) | (with_reducible refine Ext.grown _ ?_ ?_) | (with_reducible exact Nat.le_refl _) | omega | (simp only [World.size_alloc, World.size_setCell, World.size_drew]; omega) | (simp; omega) | (simp; done)))
          · simp; omega
        case measure => simp [intOf]
    · try simp at c0 c1 c2 c3 c4 c5 c6
      go_wp2
      go_quiet (fail)
      go_wp2
      all_goals
        go_roundw
        case rel =>
          refine ⟨6, by omega, rfl, ?_, ?_, ?_⟩
          · simp [go_sem, c0, c1, c2, c3, c4, c5, c6, f0, f1, f2, f3, f4, f5, f6] <;> omega
          · have hb := HB.out
            (repeat' (first | (with_reducible exact Below.refl _ _) | (with_reducible assumption) | (with_reducible refine Below.setCell ?_ ?_ _) | (with_reducible refine Below.alloc ?_ ?_ _) | (with_reducible refine Below.drew ?_) | (with_reducible refine below_drewN ?_ _) | (with_reducible refine Ext.grown _ ?_ ?_) | (with_reducible exact Nat.le_refl _) | omega | (simp only [World.size_alloc, World.size_setCell, World.size_drew]; omega) | (simp; omega) | (simp; done)))
          · simp; omega
        case measure => simp [intOf]
    · try simp at c0 c1 c2 c3 c4 c5 c6
      go_wp2
      go_quiet (fail)
      go_wp2
      all_goals
        go_roundw
        case rel =>
          refine ⟨7, by omega, rfl, ?_, ?_, ?_⟩
          · simp [go_sem, c0, c1, c2, c3, c4, c5, c6, f0, f1, f2, f3, f4, f5, f6] <;> omega
          · have hb := HB.out
            (repeat' (first | (with_reducible exact Below.refl _ _) | (with_reducible assumption) | (with_reducible refine Below.setCell ?_ ?_ _) | (with_reducible refine Below.alloc ?_ ?_ _) | (with_reducible refine Below.drew ?_) | (with_reducible refine below_drewN ?_ _) | (with_reducible refine Ext.grown _ ?_ ?_) | (with_reducible exact Nat.le_refl _) | omega | (simp only [World.size_alloc, World.size_setCell, World.size_drew]; omega) | (simp; omega) | (simp; done)))
          · simp; omega
        case measure => simp [intOf]
    · try simp at c0 c1 c2 c3 c4 c5 c6
      go_wp2
      refine bodyPost_ret (v := .agg #[.int .i64 (max a0 b0), .int .i64 (max a1 b1), .int .i64 (max a2 b2), .int .i64 (max a3 b3), .int .i64 (max a4 b4), .int .i64 (max a5 b5), .int .i64 (max a6 b6)]) (by simp [results, Try.results36, go_sem, z_0, z_1, z_2, z_3, z_4, z_5, z_6]) rfl ⟨rfl, ?_⟩
      have hb := HB.out
      have hB := hb.mono (show w.heap.size ≤ w.heap.size + 1 + 1 + 1 by omega)
      have hL : Below w.heap.size w wr := Below.trans ((((Below.refl _ w).alloc (Nat.le_refl _) _).alloc (by simp) _).alloc (by simp; omega) _) hB
      (repeat' (first | (with_reducible exact Below.refl _ _) | (with_reducible assumption) | (with_reducible refine Below.setCell ?_ ?_ _) | (with_reducible refine Below.alloc ?_ ?_ _) | (with_reducible refine Below.drew ?_) | (with_reducible refine below_drewN ?_ _) | (with_reducible refine Ext.grown _ ?_ ?_) | (with_reducible exact Nat.le_refl _) | omega | (simp only [World.size_alloc, World.size_setCell, World.size_drew]; omega) | (simp; omega) | (simp; done)))

end Go.Proofs.Ythnmccolfckhdaa
