/- keys.Runes, keys.Weight and keys.Shard, as the printed texts ask for them. -/
import Derived.Test.YtcoohapohkbnpaaKeys
namespace Go.Proofs.Ytcoohapohkbnpaa.X
open Go.RowKit Go.Proofs.Ytcoohapohkbnpaa.Keys Go.Proofs.YtcoohapohkbnpaaW.PrintWords Go.Proofs.YtcoohapohkbnpaaW.PrintLast Go.Proofs.YtcoohapohkbnpaaW.PrintMore
set_option linter.unusedVariables false
def keys_Runes.f (a0 : ByteArray) : Option (List Int) := if a0.size ≤ 2000 then some (runes a0) else none
theorem keys_Runes.calls (a0 : ByteArray) (r : List Int) (w : World) (h : keys_Runes.f a0 = some r) :
    Calls Try.prog 26 #[.string a0] w fun e w' => ∃ v0_ : Value, e = .returned (v0_) ∧ Kd.R (Kd.int .i32) 21 w' w.heap.size (fun _ => True) v0_ r ∧ Below w.heap.size w w' := by
  unfold keys_Runes.f at h
  by_cases hs : a0.size ≤ 2000
  · rw [if_pos hs] at h
    obtain rfl := Option.some.inj h
    refine (runes_any a0 hs w).mono ?_
    rintro e w' ⟨v, rfl, ho, hB⟩
    exact ⟨v, rfl, Kd.R_of_own ho (fun _ _ => trivial), hB⟩
  · rw [if_neg hs] at h; cases h
def keys_Weight.f (a0 : ByteArray) : Option Int := if a0.size ≤ 2000 then some (weight a0) else none
theorem keys_Weight.calls (a0 : ByteArray) (r : Int) (w : World) (h : keys_Weight.f a0 = some r) :
    Calls Try.prog 18 #[.string a0] w fun e w' => e = .returned (.int .i64 r) ∧ Below w.heap.size w w' := by
  unfold keys_Weight.f at h
  by_cases hs : a0.size ≤ 2000
  · rw [if_pos hs] at h
    exact weight_any a0 hs r (Option.some.inj h).symm w
  · rw [if_neg hs] at h; cases h
def keys_Shard.f (a0 : ByteArray) (a1 : Int) : Option (Int × Int) := some (shardN a0 a1, shardE a0 a1)
theorem keys_Shard.calls (a0 : ByteArray) (a1 : Int) (r1 : Int) (r2 : Int) (w : World) (h : keys_Shard.f a0 a1 = some (r1, r2)) :
    Calls Try.prog 17 #[.string a0, .int .i64 a1] w fun e w' => e = .returned (.tuple #[.int .i64 r1, .int .i64 r2]) ∧ Below w.heap.size w w' := by
  injection h with h; injection h with h1 h2
  exact shard_is a0 a1 r1 r2 h1.symm h2.symm w
end Go.Proofs.Ytcoohapohkbnpaa.X
