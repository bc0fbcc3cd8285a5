/- The law KeysShards: whether any text may be a key, and its shard, are the document's. -/
import Derived.Test.YticadmfpeepciaaKeys
namespace Go.Proofs.Yticadmfpeepciaa.Keys
open Go.RowKit Go.Proofs.YticadmfpeepciaaW.PrintWords Go.Proofs.YticadmfpeepciaaW.PrintLast Go.Proofs.YticadmfpeepciaaW.PrintMore Go.Proofs.Yticadmfpeepciaa.PKeysShards
set_option linter.unusedSimpArgs false
set_option linter.unusedVariables false

set_option maxRecDepth 1000000 in
set_option maxHeartbeats 4000000 in
theorem walkKeysShards (s : ByteArray) (m : Int) (hs : s.size ≤ 140737488351232) (hm : -9223372036854775808 ≤ m ∧ m ≤ 9223372036854775807) (w : World) :
    Calls Try.prog 4 #[.string s, .int .i64 m] w fun e w' => e = .returned (.bool true) ∧ Below w.heap.size w w' := by
  by_cases hz : 2000 < s.size
  · have d1 : decide (2000 < (s.size : Int)) = true := decide_eq_true (by omega)
    go_enter Try.func4, Try.ntmps4
    go_wp2_with (first | (go_at_call 21; (first | (with_reducible refine (calls_ext (awake04 _)).mono ?_) | (with_reducible refine (calls_to_ext (awake04 _)).mono ?_)); rintro e w1 ⟨rfl, X, rfl⟩))
    go_ret
    exact ⟨rfl, X.below⟩
  · have d1 : decide (2000 < (s.size : Int)) = false := decide_eq_false (by omega)
    obtain ⟨x, hx⟩ : ∃ x, x = okKey s := ⟨_, rfl⟩
    obtain ⟨n, hn⟩ : ∃ x, x = shardN s m := ⟨_, rfl⟩
    obtain ⟨q, hq⟩ : ∃ x, x = shardE s m := ⟨_, rfl⟩
    have HX := Lib.hid hx
    have HN := Lib.hid hn
    have HQ := Lib.hid hq
    clear hx hn hq
    go_enter Try.func4, Try.ntmps4
    go_wp2_with (first | (go_at_call 26; (first | (with_reducible refine (calls_ext (shard_is s m n q HN.out HQ.out _)).mono ?_) | (with_reducible refine (calls_to_ext (shard_is s m n q HN.out HQ.out _)).mono ?_)); rintro e w1 ⟨rfl, X, rfl⟩) | (go_at_call 27; (first | (with_reducible refine (calls_ext (rshard_is s m n q HN.out HQ.out _)).mono ?_) | (with_reducible refine (calls_to_ext (rshard_is s m n q HN.out HQ.out _)).mono ?_)); rintro e w1 ⟨rfl, X, rfl⟩) | (go_at_call 28; (first | (with_reducible refine (calls_ext (right_is s x HX.out _)).mono ?_) | (with_reducible refine (calls_to_ext (right_is s x HX.out _)).mono ?_)); rintro e w1 ⟨rfl, X, rfl⟩) | (go_at_call 29; (first | (with_reducible refine (calls_ext (rright_is s x HX.out _)).mono ?_) | (with_reducible refine (calls_to_ext (rright_is s x HX.out _)).mono ?_)); rintro e w1 ⟨rfl, X, rfl⟩) | (go_at_call 21; (first | (with_reducible refine (calls_ext (awake04 _)).mono ?_) | (with_reducible refine (calls_to_ext (awake04 _)).mono ?_)); rintro e w1 ⟨rfl, X, rfl⟩))
    go_ret
    exact ⟨rfl, X.below⟩
end Go.Proofs.Yticadmfpeepciaa.Keys
