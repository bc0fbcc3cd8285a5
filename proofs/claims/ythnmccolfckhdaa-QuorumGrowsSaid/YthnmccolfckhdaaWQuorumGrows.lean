/- The law QuorumGrows: with one more a majority stays one, and no replica is lost. -/
import Derived.Test.YthnmccolfckhdaaQuorumIs
namespace Go.Proofs.Ythnmccolfckhdaa
open Go.RowKit
set_option linter.unusedSimpArgs false
set_option linter.unusedVariables false
attribute [local go_sem] max2_int max_two min2_int min_two Ext.cell Ext.frozen Ext.cell_set szlt1 szlt2 szlt3 szlt4 szlt5 szlt6
attribute [local simp] szlt1 szlt2 szlt3 szlt4 szlt5 szlt6

theorem mem_at (s : Int) (n : Nat) : ∀ j, j < (mem s n).length → ∃ i : Nat, i < n ∧ (mem s n).getD j 0 = (i : Int) ∧ tb s i = true := by
  intro j hj
  have hm : (mem s n)[j] ∈ mem s n := List.getElem_mem hj
  have e : (mem s n).getD j 0 = (mem s n)[j] := by simp [List.getD_eq_getElem?_getD, hj]
  rw [e]
  unfold mem at hm
  rw [List.mem_map] at hm
  obtain ⟨i, hi, hie⟩ := hm
  rw [List.mem_filter, List.mem_range] at hi
  exact ⟨i, hi.1, hie.symm, hi.2⟩
theorem own_cells {w : World} {base : Nat} {e : TypeId} {v : Value} {xs : List Int} (h : w.ownsRow base e 1 v xs.length (xs.map (Value.int .i64))) :
    (v = .slice none 0 0 ∧ xs.length = 0) ∨ ∃ g cap, v = .slice (some ⟨g, 0, none⟩) xs.length cap ∧ base ≤ g ∧ ∀ j, j < xs.length → w.cell? ⟨g, j, none⟩ = some (.int .i64 (xs.getD j 0)) := by
  rcases h.2 with h0 | ⟨g, cap, cur, rfl, hg, hh, hn, _, hc, ht⟩
  · exact .inl h0
  · refine .inr ⟨g, cap, rfl, hg, fun j hj => ?_⟩
    have hj2 : j < cur.toList.length := by rw [Array.length_toList]; omega
    have e1 : (cur.toList.take (xs.length * 1))[j]? = (xs.map (Value.int .i64))[j]? := by rw [ht]
    rw [List.getElem?_take, if_pos (by omega), List.getElem?_map] at e1
    have e2 : xs[j]? = some (xs.getD j 0) := by simp [List.getD_eq_getElem?_getD, hj]
    rw [e2] at e1
    simp [World.cell?, hh]
    simpa using e1

set_option maxHeartbeats 4000000 in
theorem walkQuorumGrows (f s k : Int) (rf : -9223372036854775808 ≤ f ∧ f ≤ 9223372036854775807) (rs : -9223372036854775808 ≤ s ∧ s ≤ 9223372036854775807) (rk : -9223372036854775808 ≤ k ∧ k ≤ 9223372036854775807) (w : World) :
    Calls Try.prog 9 #[.int .i64 f, .int .i64 s, .int .i64 k] w fun e w' => e = .returned (.bool true) ∧ Below w.heap.size w w' := by
  obtain ⟨n, hn⟩ : ∃ n : Int, n = ((mem s 7).length : Int) := ⟨_, rfl⟩
  obtain ⟨m, hm⟩ : ∃ n : Int, n = ((mem (withq s k) 7).length : Int) := ⟨_, rfl⟩
  have hc := grows_count s k
  have hn7 := mem_le s 7
  have hd1 : decide (n ≤ m) = true := decide_eq_true (by omega)
  have hd2 : decide (m ≤ n + 1) = true := decide_eq_true (by omega)
  have hnb : 0 ≤ n ∧ n ≤ 7 := by omega
  have hg := grows_maj f s k
  have HN := Lib.hid hn
  have HM := Lib.hid hm
  have HG := Lib.hid hg
  have HL : Hid (∀ j, j < (mem s 7).length → ∃ i : Nat, i < 7 ∧ (mem s 7).getD j 0 = (i : Int) ∧ tb s i = true) := Lib.hid (mem_at s 7)
  clear hn hm hc hg
  go_enter Try.func9, Try.ntmps9
  go_wp2_with (first | (go_at_call 31; refine (qwith_any s k _).mono ?_; rintro e w1 ⟨rfl, hb1⟩) | (go_at_call 32; refine (members_any s _).mono ?_; rintro e w2 ⟨v, rfl, hown, hb2⟩; obtain ⟨A, c, rfl⟩ : ∃ A c, v = .slice A (mem s 7).length c := (by rcases hown.2 with ⟨rfl, h0⟩ | ⟨g, cap, cur, rfl, _⟩; exact ⟨none, 0, (by rw [h0])⟩; exact ⟨_, _, rfl⟩); have HB := Lib.hid (hb1.trans (hb2.mono hb1.size)); have HO := Lib.hid hown; clear hown hb1 hb2))
  generalize hL : (mem s 7).length = L at hn7
  have HLL := Lib.hid hL
  clear hL
  have KC : Hid (∀ j, j < L → ∃ ad, A = some ad ∧ w2.cell? (ad.add j) = some (.int .i64 ((mem s 7).getD j 0)) ∧ ad.block < w2.heap.size) := Lib.hid (by
    intro j hj
    rw [← HLL.out] at hj
    rcases own_cells HO.out with ⟨h1, h2⟩ | ⟨g, cap, h1, _, h3⟩
    · omega
    · injection h1 with h1 _ _
      refine ⟨_, h1, ?_, ?_⟩
      · have ha : (⟨g, 0, none⟩ : Addr).add j = ⟨g, j, none⟩ := by unfold Addr.add; split <;> simp_all
        rw [ha]; exact h3 j hj
      · exact World.block_lt_of_cell? w2 ⟨g, j, none⟩ (h3 j hj))
  go_loopw [16] (fun i wr => ∃ j : Nat, j ≤ L ∧ i = .int .i64 j ∧ Hid (Below w2.heap.size w2 wr)) (fun i _ => L - (intOf i).toNat)
  case atStart => exact ⟨0, by omega, rfl, Lib.hid (Below.refl _ _)⟩
  case round =>
    obtain ⟨j, hj, rfl, hb⟩ := hrel
    by_cases hlt : j < L
    · obtain ⟨ad, rfl, hcell0, hblk⟩ := KC.out j hlt
      obtain ⟨i, hi7, hi, hbit⟩ := HL.out j (by rw [HLL.out]; exact hlt)
      have hcell : wr.cell? (ad.add j) = some (.int .i64 (i : Int)) := by
        rw [hb.out.cell (p := ad.add j) (by rw [show (ad.add j).block = ad.block by unfold Addr.add; split <;> rfl]; exact hblk), hcell0, hi]
      clear hcell0 hblk
      have HT : Hid (true = (decide (0 ≤ (i : Int) ∧ (i : Int) < 7) && tb (withq s k) (i : Int).toNat)) := Lib.hid (by
        rw [Int.toNat_natCast, tb_withq s k i hi7, hbit, decide_eq_true (by omega), Bool.true_or]; rfl)
      clear hi hbit
      go_wp2_with (go_at_call 30; refine (quHas_is (withq s k) (i : Int) true HT.out _).mono ?_; rintro e w3 ⟨rfl, hb3⟩; have hb4 := Lib.hid (hb.out.trans (hb3.mono hb.out.size)); clear hb3)
      go_roundw
      case rel => exact ⟨j + 1, by omega, by go_num, hb4⟩
      case measure => simp [intOf]; omega
    · have HBW := Lib.hid (HB.out.trans (hb.out.mono HB.out.size))
      by_cases hmj : maj f s
      · have hmj2 := HG.out hmj
        go_wp2_with (first | (go_at_call 29; (first | (with_reducible refine (calls_ext (major_yes f s hmj _)).mono ?_) | (with_reducible refine (calls_to_ext (major_yes f s hmj _)).mono ?_)); rintro e w1 ⟨rfl, X, rfl⟩) | (go_at_call 29; (first | (with_reducible refine (calls_ext (major_yes f (withq s k) hmj2 _)).mono ?_) | (with_reducible refine (calls_to_ext (major_yes f (withq s k) hmj2 _)).mono ?_)); rintro e w1 ⟨rfl, X, rfl⟩) | (go_at_call 26; (first | (with_reducible refine (calls_ext (count_is s n HN.out _)).mono ?_) | (with_reducible refine (calls_to_ext (count_is s n HN.out _)).mono ?_)); rintro e w1 ⟨rfl, X, rfl⟩) | (go_at_call 26; (first | (with_reducible refine (calls_ext (count_is (withq s k) m HM.out _)).mono ?_) | (with_reducible refine (calls_to_ext (count_is (withq s k) m HM.out _)).mono ?_)); rintro e w1 ⟨rfl, X, rfl⟩) | (go_at_call 28; (first | (with_reducible refine (calls_ext (awake01 _)).mono ?_) | (with_reducible refine (calls_to_ext (awake01 _)).mono ?_)); rintro e w1 ⟨rfl, X, rfl⟩))
        go_ret
        exact ⟨rfl, HBW.out.trans (X.below.mono HBW.out.size)⟩
      · go_wp2_with (first | (go_at_call 29; (first | (with_reducible refine (calls_ext (major_no f s hmj _)).mono ?_) | (with_reducible refine (calls_to_ext (major_no f s hmj _)).mono ?_)); rintro e w1 ⟨rfl, X, rfl⟩) | (go_at_call 26; (first | (with_reducible refine (calls_ext (count_is s n HN.out _)).mono ?_) | (with_reducible refine (calls_to_ext (count_is s n HN.out _)).mono ?_)); rintro e w1 ⟨rfl, X, rfl⟩) | (go_at_call 26; (first | (with_reducible refine (calls_ext (count_is (withq s k) m HM.out _)).mono ?_) | (with_reducible refine (calls_to_ext (count_is (withq s k) m HM.out _)).mono ?_)); rintro e w1 ⟨rfl, X, rfl⟩) | (go_at_call 28; (first | (with_reducible refine (calls_ext (awake01 _)).mono ?_) | (with_reducible refine (calls_to_ext (awake01 _)).mono ?_)); rintro e w1 ⟨rfl, X, rfl⟩))
        go_ret
        exact ⟨rfl, HBW.out.trans (X.below.mono HBW.out.size)⟩

end Go.Proofs.Ythnmccolfckhdaa
