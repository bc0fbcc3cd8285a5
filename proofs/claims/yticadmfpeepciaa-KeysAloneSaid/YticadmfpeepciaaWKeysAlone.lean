/- The law KeysAlone: a key's shard hangs on its weight alone. -/
import Derived.Test.YticadmfpeepciaaKeys
namespace Go.Proofs.Yticadmfpeepciaa.Keys
open Go.RowKit Go.Proofs.YticadmfpeepciaaW.PrintWords Go.Proofs.YticadmfpeepciaaW.PrintLast Go.Proofs.YticadmfpeepciaaW.PrintMore Go.Proofs.Yticadmfpeepciaa.PKeysShards
set_option linter.unusedSimpArgs false
set_option linter.unusedVariables false

set_option maxRecDepth 1000000 in
set_option maxHeartbeats 4000000 in
theorem walkKeysAlone (a b : ByteArray) (m : Int) (ha : a.size ≤ 140737488351232) (hb : b.size ≤ 140737488351232) (hm : -9223372036854775808 ≤ m ∧ m ≤ 9223372036854775807) (w : World) :
    Calls Try.prog 5 #[.string a, .string b, .int .i64 m] w fun e w' => e = .returned (.bool true) ∧ Below w.heap.size w w' := by
  cases ka : okKey a with
  | false =>
    have HA := Lib.hid ka.symm
    clear ka
    go_enter Try.func5, Try.ntmps5
    go_wp2_with (first | (go_at_call 29; (first | (with_reducible refine (calls_ext (rright_is a false HA.out _)).mono ?_) | (with_reducible refine (calls_to_ext (rright_is a false HA.out _)).mono ?_)); rintro e w1 ⟨rfl, X, rfl⟩) | (go_at_call 21; (first | (with_reducible refine (calls_ext (awake04 _)).mono ?_) | (with_reducible refine (calls_to_ext (awake04 _)).mono ?_)); rintro e w1 ⟨rfl, X, rfl⟩))
    go_ret
    exact ⟨rfl, X.below⟩
  | true =>
    have HA := Lib.hid ka.symm
    cases kb : okKey b with
    | false =>
      have HB := Lib.hid kb.symm
      clear ka kb
      go_enter Try.func5, Try.ntmps5
      go_wp2_with (first | (go_at_call 29; (first | (with_reducible refine (calls_ext (rright_is a true HA.out _)).mono ?_) | (with_reducible refine (calls_to_ext (rright_is a true HA.out _)).mono ?_)); rintro e w1 ⟨rfl, X, rfl⟩) | (go_at_call 29; (first | (with_reducible refine (calls_ext (rright_is b false HB.out _)).mono ?_) | (with_reducible refine (calls_to_ext (rright_is b false HB.out _)).mono ?_)); rintro e w1 ⟨rfl, X, rfl⟩) | (go_at_call 21; (first | (with_reducible refine (calls_ext (awake04 _)).mono ?_) | (with_reducible refine (calls_to_ext (awake04 _)).mono ?_)); rintro e w1 ⟨rfl, X, rfl⟩))
      go_ret
      exact ⟨rfl, X.below⟩
    | true =>
      have HB := Lib.hid kb.symm
      by_cases h1 : m < 1
      · have d1 : decide (m < 1) = true := decide_eq_true h1
        clear ka kb
        go_enter Try.func5, Try.ntmps5
        go_wp2_with (first | (go_at_call 29; (first | (with_reducible refine (calls_ext (rright_is a true HA.out _)).mono ?_) | (with_reducible refine (calls_to_ext (rright_is a true HA.out _)).mono ?_)); rintro e w1 ⟨rfl, X, rfl⟩) | (go_at_call 29; (first | (with_reducible refine (calls_ext (rright_is b true HB.out _)).mono ?_) | (with_reducible refine (calls_to_ext (rright_is b true HB.out _)).mono ?_)); rintro e w1 ⟨rfl, X, rfl⟩) | (go_at_call 21; (first | (with_reducible refine (calls_ext (awake04 _)).mono ?_) | (with_reducible refine (calls_to_ext (awake04 _)).mono ?_)); rintro e w1 ⟨rfl, X, rfl⟩))
        go_ret
        exact ⟨rfl, X.below⟩
      · have d1 : decide (m < 1) = false := decide_eq_false h1
        by_cases h4 : 4 < m
        · have d4 : decide (4 < m) = true := decide_eq_true h4
          clear ka kb
          go_enter Try.func5, Try.ntmps5
          go_wp2_with (first | (go_at_call 29; (first | (with_reducible refine (calls_ext (rright_is a true HA.out _)).mono ?_) | (with_reducible refine (calls_to_ext (rright_is a true HA.out _)).mono ?_)); rintro e w1 ⟨rfl, X, rfl⟩) | (go_at_call 29; (first | (with_reducible refine (calls_ext (rright_is b true HB.out _)).mono ?_) | (with_reducible refine (calls_to_ext (rright_is b true HB.out _)).mono ?_)); rintro e w1 ⟨rfl, X, rfl⟩) | (go_at_call 21; (first | (with_reducible refine (calls_ext (awake04 _)).mono ?_) | (with_reducible refine (calls_to_ext (awake04 _)).mono ?_)); rintro e w1 ⟨rfl, X, rfl⟩))
          go_ret
          exact ⟨rfl, X.below⟩
        · have d4 : decide (4 < m) = false := decide_eq_false h4
          have sa := ok_size ka
          have sb := ok_size kb
          have wa := weight_range a sa
          obtain ⟨x, hx⟩ : ∃ x, x = weight a := ⟨_, rfl⟩
          obtain ⟨y, hy⟩ : ∃ y, y = weight b := ⟨_, rfl⟩
          have e1 : (0 : Int) = shardE a m := by unfold shardE; rw [if_pos ⟨ka, by omega, by omega⟩]
          have e2 : (0 : Int) = shardE b m := by unfold shardE; rw [if_pos ⟨kb, by omega, by omega⟩]
          have e3 : (0 : Int) = shardE a 1 := by unfold shardE; rw [if_pos ⟨ka, by omega, by omega⟩]
          have n3 : (0 : Int) = shardN a 1 := by unfold shardN; rw [if_pos ⟨ka, by omega, by omega⟩]; omega
          obtain ⟨n, hn⟩ : ∃ n, n = shardN a m := ⟨_, rfl⟩
          obtain ⟨q, hq⟩ : ∃ n, n = shardN b m := ⟨_, rfl⟩
          have n1 : n = x % m := by rw [hn, hx]; unfold shardN; rw [if_pos ⟨ka, by omega, by omega⟩]
          have n2 : q = y % m := by rw [hq, hy]; unfold shardN; rw [if_pos ⟨kb, by omega, by omega⟩]
          have n0 : 0 ≤ n ∧ n < m := by rw [n1]; exact ⟨Int.emod_nonneg _ (by omega), Int.emod_lt_of_pos _ (by omega)⟩
          have E1 := Lib.hid e1
          have E2 := Lib.hid e2
          have E3 := Lib.hid e3
          have N1 := Lib.hid hn
          have N2 := Lib.hid hq
          have N3 := Lib.hid n3
          have WX := Lib.hid hx
          have WY := Lib.hid hy
          have c0 : decide (0 ≤ n) = true := decide_eq_true n0.1
          have cm : decide (n < m) = true := decide_eq_true n0.2
          by_cases hxy : x = y
          · have hnq : n = q := by rw [n1, n2, hxy]
            subst hxy
            subst hnq
            clear n1 n2 e1 e2 e3 hn hq n3 hx hy ka kb wa
            go_enter Try.func5, Try.ntmps5
            go_wp2_with (first | (go_at_call 29; (first | (with_reducible refine (calls_ext (rright_is a true HA.out _)).mono ?_) | (with_reducible refine (calls_to_ext (rright_is a true HA.out _)).mono ?_)); rintro e w1 ⟨rfl, X, rfl⟩) | (go_at_call 29; (first | (with_reducible refine (calls_ext (rright_is b true HB.out _)).mono ?_) | (with_reducible refine (calls_to_ext (rright_is b true HB.out _)).mono ?_)); rintro e w1 ⟨rfl, X, rfl⟩) | (go_at_call 26; (first | (with_reducible refine (calls_ext (shard_is a m n 0 N1.out E1.out _)).mono ?_) | (with_reducible refine (calls_to_ext (shard_is a m n 0 N1.out E1.out _)).mono ?_)); rintro e w1 ⟨rfl, X, rfl⟩) | (go_at_call 26; (first | (with_reducible refine (calls_ext (shard_is b m n 0 N2.out E2.out _)).mono ?_) | (with_reducible refine (calls_to_ext (shard_is b m n 0 N2.out E2.out _)).mono ?_)); rintro e w1 ⟨rfl, X, rfl⟩) | (go_at_call 26; (first | (with_reducible refine (calls_ext (shard_is a 1 0 0 N3.out E3.out _)).mono ?_) | (with_reducible refine (calls_to_ext (shard_is a 1 0 0 N3.out E3.out _)).mono ?_)); rintro e w1 ⟨rfl, X, rfl⟩) | (go_at_call 24; (first | (with_reducible refine (calls_ext (weight_any a sa x WX.out _)).mono ?_) | (with_reducible refine (calls_to_ext (weight_any a sa x WX.out _)).mono ?_)); rintro e w1 ⟨rfl, X, rfl⟩) | (go_at_call 24; (first | (with_reducible refine (calls_ext (weight_any b sb x WY.out _)).mono ?_) | (with_reducible refine (calls_to_ext (weight_any b sb x WY.out _)).mono ?_)); rintro e w1 ⟨rfl, X, rfl⟩) | (go_at_call 21; (first | (with_reducible refine (calls_ext (awake04 _)).mono ?_) | (with_reducible refine (calls_to_ext (awake04 _)).mono ?_)); rintro e w1 ⟨rfl, X, rfl⟩))
            go_ret
            exact ⟨rfl, X.below⟩
          · have dxy : (x != y) = true := bne_iff_ne.2 hxy
            clear n1 n2 e1 e2 e3 hn hq n3 hx hy ka kb wa
            go_enter Try.func5, Try.ntmps5
            go_wp2_with (first | (go_at_call 29; (first | (with_reducible refine (calls_ext (rright_is a true HA.out _)).mono ?_) | (with_reducible refine (calls_to_ext (rright_is a true HA.out _)).mono ?_)); rintro e w1 ⟨rfl, X, rfl⟩) | (go_at_call 29; (first | (with_reducible refine (calls_ext (rright_is b true HB.out _)).mono ?_) | (with_reducible refine (calls_to_ext (rright_is b true HB.out _)).mono ?_)); rintro e w1 ⟨rfl, X, rfl⟩) | (go_at_call 26; (first | (with_reducible refine (calls_ext (shard_is a m n 0 N1.out E1.out _)).mono ?_) | (with_reducible refine (calls_to_ext (shard_is a m n 0 N1.out E1.out _)).mono ?_)); rintro e w1 ⟨rfl, X, rfl⟩) | (go_at_call 26; (first | (with_reducible refine (calls_ext (shard_is b m q 0 N2.out E2.out _)).mono ?_) | (with_reducible refine (calls_to_ext (shard_is b m q 0 N2.out E2.out _)).mono ?_)); rintro e w1 ⟨rfl, X, rfl⟩) | (go_at_call 26; (first | (with_reducible refine (calls_ext (shard_is a 1 0 0 N3.out E3.out _)).mono ?_) | (with_reducible refine (calls_to_ext (shard_is a 1 0 0 N3.out E3.out _)).mono ?_)); rintro e w1 ⟨rfl, X, rfl⟩) | (go_at_call 24; (first | (with_reducible refine (calls_ext (weight_any a sa x WX.out _)).mono ?_) | (with_reducible refine (calls_to_ext (weight_any a sa x WX.out _)).mono ?_)); rintro e w1 ⟨rfl, X, rfl⟩) | (go_at_call 24; (first | (with_reducible refine (calls_ext (weight_any b sb y WY.out _)).mono ?_) | (with_reducible refine (calls_to_ext (weight_any b sb y WY.out _)).mono ?_)); rintro e w1 ⟨rfl, X, rfl⟩) | (go_at_call 21; (first | (with_reducible refine (calls_ext (awake04 _)).mono ?_) | (with_reducible refine (calls_to_ext (awake04 _)).mono ?_)); rintro e w1 ⟨rfl, X, rfl⟩))
            go_ret
            exact ⟨rfl, X.below⟩
end Go.Proofs.Yticadmfpeepciaa.Keys
