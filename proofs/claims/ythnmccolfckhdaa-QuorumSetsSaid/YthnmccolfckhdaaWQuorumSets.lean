/- The law QuorumSets: which replicas are in any set, and with or without any one, how many, and whether they are a majority, are the document's. -/
import Derived.Test.YthnmccolfckhdaaQuorumS
namespace Go.Proofs.Ythnmccolfckhdaa
open Go.RowKit
set_option linter.unusedSimpArgs false
set_option linter.unusedVariables false
attribute [local go_sem] max2_int max_two min2_int min_two Ext.cell Ext.frozen Ext.cell_set szlt1 szlt2 szlt3 szlt4 szlt5 szlt6
attribute [local simp] szlt1 szlt2 szlt3 szlt4 szlt5 szlt6

theorem own_cellsS {w : World} {base : Nat} {e : TypeId} {v : Value} {xs : List Int} (h : w.ownsRow base e 1 v xs.length (xs.map (Value.int .i64))) :
    ∃ A c, v = .slice A xs.length c ∧ ∀ j, j < xs.length → ∃ ad : Addr, A = some ad ∧ w.cell? (ad.add j) = some (.int .i64 (xs.getD j 0)) ∧ ad.block < w.heap.size ∧ (ad.add j).block = ad.block := by
  rcases h.2 with ⟨rfl, h0⟩ | ⟨g, cap, cur, rfl, hg, hh, hn, _, hc, ht⟩
  · exact ⟨none, 0, by rw [h0], fun j hj => by omega⟩
  · refine ⟨_, cap, rfl, fun j hj => ⟨_, rfl, ?_⟩⟩
    have hj2 : j < cur.toList.length := by rw [Array.length_toList]; omega
    have e1 : (cur.toList.take (xs.length * 1))[j]? = (xs.map (Value.int .i64))[j]? := by rw [ht]
    rw [List.getElem?_take, if_pos (by omega), List.getElem?_map] at e1
    have e2 : xs[j]? = some (xs.getD j 0) := by simp [List.getD_eq_getElem?_getD, hj]
    rw [e2] at e1
    have h3 : w.cell? ⟨g, j, none⟩ = some (.int .i64 (xs.getD j 0)) := by simp [World.cell?, hh]; simpa using e1
    have ha : (⟨g, 0, none⟩ : Addr).add j = ⟨g, j, none⟩ := by unfold Addr.add; split <;> simp_all
    rw [ha]
    exact ⟨h3, World.block_lt_of_cell? w ⟨g, j, none⟩ h3, rfl⟩

set_option maxHeartbeats 4000000 in
theorem walkQuorumSets (f s k : Int) (rf : -9223372036854775808 ≤ f ∧ f ≤ 9223372036854775807) (rs : -9223372036854775808 ≤ s ∧ s ≤ 9223372036854775807) (rk : -9223372036854775808 ≤ k ∧ k ≤ 9223372036854775807) (w : World) :
    Calls Try.prog 14 #[.int .i64 f, .int .i64 s, .int .i64 k] w fun e w' => e = .returned (.bool true) ∧ Below w.heap.size w w' := by
  obtain ⟨n, hn⟩ : ∃ n : Int, n = ((mem s 7).length : Int) := ⟨_, rfl⟩
  obtain ⟨x, hx⟩ : ∃ n : Bool, n = (decide (0 ≤ k ∧ k < 7) && tb s k.toNat) := ⟨_, rfl⟩
  obtain ⟨y, hy⟩ : ∃ n : Bool, n = decide (maj f s) := ⟨_, rfl⟩
  have hn7 := mem_le s 7
  have HN := Lib.hid hn
  have HX := Lib.hid hx
  have HY := Lib.hid hy
  have HY1 : Hid (y = decide (0 < slw f ∧ slw f ≤ (mem (bits .and .i64 s (allq f)) 7).length)) := Lib.hid (by rw [hy, decide_eq_decide]; exact Iff.rfl)
  clear hn hx hy
  go_enter Try.func14, Try.ntmps14
  go_wp2_with (first | (go_at_call 32; refine (members_any s _).mono ?_; rintro e w1 ⟨v, rfl, hown, hb2⟩; obtain ⟨A, c, rfl, hcs⟩ := own_cellsS hown; have K1 := Lib.hid hcs; have B1 := Lib.hid hb2; clear hown hcs hb2) | (go_at_call 43; refine (rmembers_any s _).mono ?_; rintro e w2 ⟨v, rfl, hown, hb2⟩; obtain ⟨B, d, rfl, hcs⟩ := own_cellsS hown; have K2 := Lib.hid hcs; have B2 := Lib.hid hb2; clear hown hcs hb2))
  generalize (mem s 7).length = L at hn7 K1 K2
  go_loopw [21] (fun i wr => ∃ j : Nat, j ≤ L ∧ i = .int .i64 j ∧ Hid (Below w2.heap.size w2 wr)) (fun i _ => L - (intOf i).toNat)
  case atStart => exact ⟨0, by omega, rfl, Lib.hid (Below.refl _ _)⟩
  case round =>
    obtain ⟨j, hj, rfl, hb⟩ := hrel
    by_cases hlt : j < L
    · obtain ⟨ad, rfl, hc1, hk1, ha1⟩ := K1.out j hlt
      obtain ⟨bd, rfl, hc2, hk2, ha2⟩ := K2.out j hlt
      have hcell1 : wr.cell? (ad.add j) = some (.int .i64 ((mem s 7).getD j 0)) := by
        rw [hb.out.cell (p := ad.add j) (by rw [ha1]; have := B2.out.size; omega), B2.out.cell (p := ad.add j) (by rw [ha1]; exact hk1), hc1]
      have hcell2 : wr.cell? (bd.add j) = some (.int .i64 ((mem s 7).getD j 0)) := by
        rw [hb.out.cell (p := bd.add j) (by rw [ha2]; exact hk2), hc2]
      clear hc1 hc2 hk1 hk2 ha1 ha2
      generalize (mem s 7).getD j 0 = z at hcell1 hcell2
      go_wp2
      go_quiet (fail)
      go_wp2
      go_roundw
      case rel => exact ⟨j + 1, by omega, by go_num, Lib.hid (below_drewN hb.out _)⟩
      case measure => simp [intOf]; omega
    · have HBW : Hid (Below w.heap.size w wr) := Lib.hid ((B1.out.trans (B2.out.mono B1.out.size)).trans (hb.out.mono (Nat.le_trans B1.out.size B2.out.size)))
      go_wp2_with (first | (go_at_call 30; (first | (with_reducible refine (calls_ext (quHas_is s k x HX.out _)).mono ?_) | (with_reducible refine (calls_to_ext (quHas_is s k x HX.out _)).mono ?_)); rintro e w1 ⟨rfl, X, rfl⟩) | (go_at_call 44; (first | (with_reducible refine (calls_ext (rHas_is s k x HX.out _)).mono ?_) | (with_reducible refine (calls_to_ext (rHas_is s k x HX.out _)).mono ?_)); rintro e w1 ⟨rfl, X, rfl⟩) | (go_at_call 31; (first | (with_reducible refine (calls_ext (qwith_any s k _)).mono ?_) | (with_reducible refine (calls_to_ext (qwith_any s k _)).mono ?_)); rintro e w1 ⟨rfl, X, rfl⟩) | (go_at_call 45; (first | (with_reducible refine (calls_ext (rqWith_any s k rs _)).mono ?_) | (with_reducible refine (calls_to_ext (rqWith_any s k rs _)).mono ?_)); rintro e w1 ⟨rfl, X, rfl⟩) | (go_at_call 42; (first | (with_reducible refine (calls_ext (qwithout_any s k _)).mono ?_) | (with_reducible refine (calls_to_ext (qwithout_any s k _)).mono ?_)); rintro e w1 ⟨rfl, X, rfl⟩) | (go_at_call 46; (first | (with_reducible refine (calls_ext (rqWithout_any s k rs _)).mono ?_) | (with_reducible refine (calls_to_ext (rqWithout_any s k rs _)).mono ?_)); rintro e w1 ⟨rfl, X, rfl⟩) | (go_at_call 26; (first | (with_reducible refine (calls_ext (count_is s n HN.out _)).mono ?_) | (with_reducible refine (calls_to_ext (count_is s n HN.out _)).mono ?_)); rintro e w1 ⟨rfl, X, rfl⟩) | (go_at_call 47; (first | (with_reducible refine (calls_ext (rcount_is s n HN.out _)).mono ?_) | (with_reducible refine (calls_to_ext (rcount_is s n HN.out _)).mono ?_)); rintro e w1 ⟨rfl, X, rfl⟩) | (go_at_call 29; (first | (with_reducible refine (calls_ext (major_is f s y HY1.out _)).mono ?_) | (with_reducible refine (calls_to_ext (major_is f s y HY1.out _)).mono ?_)); rintro e w1 ⟨rfl, X, rfl⟩) | (go_at_call 48; (first | (with_reducible refine (calls_ext (rmajor_is f s y HY.out _)).mono ?_) | (with_reducible refine (calls_to_ext (rmajor_is f s y HY.out _)).mono ?_)); rintro e w1 ⟨rfl, X, rfl⟩) | (go_at_call 28; (first | (with_reducible refine (calls_ext (awake01 _)).mono ?_) | (with_reducible refine (calls_to_ext (awake01 _)).mono ?_)); rintro e w1 ⟨rfl, X, rfl⟩))
      go_ret
      exact ⟨rfl, HBW.out.trans (X.below.mono HBW.out.size)⟩

end Go.Proofs.Ythnmccolfckhdaa
