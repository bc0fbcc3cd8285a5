/- The law KeysRunes: any text's runes, and its weight, are the document's. -/
import Derived.Test.YticadmfpeepciaaKeys
namespace Go.Proofs.Yticadmfpeepciaa.Keys
open Go.RowKit Go.Proofs.YticadmfpeepciaaW.PrintWords Go.Proofs.YticadmfpeepciaaW.PrintLast Go.Proofs.YticadmfpeepciaaW.PrintMore Go.Proofs.Yticadmfpeepciaa.PKeysShards
set_option linter.unusedSimpArgs false
set_option linter.unusedVariables false

theorem rrunes_any (s : ByteArray) (hs : s.size ≤ 2000) (w : World) :
    Calls Try.prog 23 #[.string s] w fun e w' => ∃ v, e = .returned v ∧ w'.ownsRow w.heap.size 3 1 v (runes s).length ((runes s).map (Value.int .i64)) ∧ Below w.heap.size w w' :=
  (althingref04_Runes.calls 2007 s (runes s) w (refRunes_is s hs 2007 (Nat.le_refl _))).mono fun e w' ⟨v, he, hR, hb⟩ => ⟨v, he, Kd.own_of_R hR, hb⟩

set_option maxRecDepth 1000000 in
set_option maxHeartbeats 4000000 in
theorem walkKeysRunes (s : ByteArray) (hs : s.size ≤ 140737488351232) (w : World) :
    Calls Try.prog 3 #[.string s] w fun e w' => e = .returned (.bool true) ∧ Below w.heap.size w w' := by
  by_cases hz : 2000 < s.size
  · have d1 : decide (2000 < (s.size : Int)) = true := decide_eq_true (by omega)
    go_enter Try.func3, Try.ntmps3
    go_wp2_with (first | (go_at_call 21; (first | (with_reducible refine (calls_ext (awake04 _)).mono ?_) | (with_reducible refine (calls_to_ext (awake04 _)).mono ?_)); rintro e w1 ⟨rfl, X, rfl⟩))
    go_ret
    exact ⟨rfl, X.below⟩
  · have d1 : decide (2000 < (s.size : Int)) = false := decide_eq_false (by omega)
    have hz2 : s.size ≤ 2000 := by omega
    obtain ⟨x, hx⟩ : ∃ x, x = weight s := ⟨_, rfl⟩
    have HX := Lib.hid hx
    have hn7 := runes_len s
    have HR := Lib.hid (runes_at s)
    clear hx
    go_enter Try.func3, Try.ntmps3
    go_wp2_with (first | (go_at_call 22; refine (runes_any s hz2 _).mono ?_; rintro e w1 ⟨v, rfl, hown, hb2⟩; obtain ⟨A, c, rfl, hcs⟩ := own_cellsI .i32 hown; have K1 := Lib.hid hcs; have B1 := Lib.hid hb2; clear hown hcs hb2) | (go_at_call 23; refine (rrunes_any s hz2 _).mono ?_; rintro e w2 ⟨v, rfl, hown, hb2⟩; obtain ⟨B, d, rfl, hcs⟩ := own_cellsI .i64 hown; have K2 := Lib.hid hcs; have B2 := Lib.hid hb2; clear hown hcs hb2))
    generalize (runes s).length = L at hn7 K1 K2
    go_loopw [21] (fun i wr => ∃ j : Nat, j ≤ L ∧ i = .int .i64 j ∧ Hid (Below w2.heap.size w2 wr)) (fun i _ => L - (intOf i).toNat)
    case atStart => exact ⟨0, by omega, rfl, Lib.hid (Below.refl _ _)⟩
    case round =>
      obtain ⟨j, hj, rfl, hb⟩ := hrel
      by_cases hlt : j < L
      · obtain ⟨ad, rfl, hc1, hk1, ha1⟩ := K1.out j hlt
        obtain ⟨bd, rfl, hc2, hk2, ha2⟩ := K2.out j hlt
        have hcell1 : wr.cell? (ad.add j) = some (.int .i32 ((runes s).getD j 0)) := by
          rw [hb.out.cell (p := ad.add j) (by rw [ha1]; have := B2.out.size; omega), B2.out.cell (p := ad.add j) (by rw [ha1]; exact hk1), hc1]
        have hcell2 : wr.cell? (bd.add j) = some (.int .i64 ((runes s).getD j 0)) := by
          rw [hb.out.cell (p := bd.add j) (by rw [ha2]; exact hk2), hc2]
        have hr := HR.out j
        clear hc1 hc2 hk1 hk2 ha1 ha2
        generalize (runes s).getD j 0 = z at hcell1 hcell2 hr
        go_wp2
        go_quiet (fail)
        go_wp2
        go_roundw
        case rel => exact ⟨j + 1, by omega, by go_num, Lib.hid (below_drewN hb.out _)⟩
        case measure => simp [intOf]; omega
      · have HBW : Hid (Below w.heap.size w wr) := Lib.hid ((B1.out.trans (B2.out.mono B1.out.size)).trans (hb.out.mono (Nat.le_trans B1.out.size B2.out.size)))
        go_wp2_with (first | (go_at_call 24; (first | (with_reducible refine (calls_ext (weight_any s hz2 x HX.out _)).mono ?_) | (with_reducible refine (calls_to_ext (weight_any s hz2 x HX.out _)).mono ?_)); rintro e w1 ⟨rfl, X, rfl⟩) | (go_at_call 25; (first | (with_reducible refine (calls_ext (rweight_is s hz2 x HX.out _)).mono ?_) | (with_reducible refine (calls_to_ext (rweight_is s hz2 x HX.out _)).mono ?_)); rintro e w1 ⟨rfl, X, rfl⟩) | (go_at_call 21; (first | (with_reducible refine (calls_ext (awake04 _)).mono ?_) | (with_reducible refine (calls_to_ext (awake04 _)).mono ?_)); rintro e w1 ⟨rfl, X, rfl⟩))
        go_ret
        exact ⟨rfl, HBW.out.trans (X.below.mono HBW.out.size)⟩

end Go.Proofs.Yticadmfpeepciaa.Keys
