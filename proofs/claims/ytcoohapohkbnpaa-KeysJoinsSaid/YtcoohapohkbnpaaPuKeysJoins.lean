/- KeysJoins, the plain law: what the walk's function comes to is true. -/
import Derived.Test.YtcoohapohkbnpaaPuKeys
import Derived.Test.YtcoohapohkbnpaaXFalthinglaw04KeysJoins
import Derived.Test.YtcoohapohkbnpaaOpn
namespace Go.Proofs.Ytcoohapohkbnpaa.Pure
open Go.RowKit Go.Proofs.Ytcoohapohkbnpaa.Strs Go.Proofs.YtcoohapohkbnpaaW.PrintWords Go.Proofs.YtcoohapohkbnpaaW.PrintLast Go.Proofs.YtcoohapohkbnpaaW.PrintMore Go.Proofs.Ytcoohapohkbnpaa.X
set_option linter.unusedSimpArgs false
set_option linter.unusedVariables false
theorem joins_end (a b : List ByteArray) (x : ByteArray) (ha : few a) (hb : few b) :
    Ev (fun k => ((keys_Join.f b a).bind fun t117 => ((althinglaw04_same.f k (joinB a b) t117).bind fun t120 => (if t120 = true then ((keys_Join.f (joinB a b) (joinB a b)).bind fun t121 => ((althinglaw04_same.f k t121 (joinB a b)).bind fun t124 => (if t124 = true then ((althingref04_In.f k (joinB a b) x).bind fun t125 => ((althingref04_In.f k a x).bind fun t126 => (if t126 = true then (if (t125 == true) = true then ((althinglaw04_awake.f).bind fun t127 => (some t127)) else (none)) else ((althingref04_In.f k b x).bind fun t128 => (if (t125 == t128) = true then ((althinglaw04_awake.f).bind fun t129 => (some t129)) else (none)))))) else (none)))) else (none))))) true := by
  have hl := joinB_len a b
  have h1 := ha.1
  have h2 := hb.1
  refine Ev.bind (Ev.const (join_f (few_big hb) (few_big ha))) ?_
  refine Ev.bind (same_is _ _ (by omega) (joinB_symm a b)) ?_
  refine Ev.congr (fun k => if_pos rfl) ?_
  refine Ev.bind (Ev.const (join_f (joinB_big ha hb) (joinB_big ha hb))) ?_
  refine Ev.bind (same_is _ _ (by have := joinB_len (joinB a b) (joinB a b); omega) (joinB_self a b)) ?_
  refine Ev.congr (fun k => if_pos rfl) ?_
  refine Ev.bind (in_ev _ x (by omega)) ?_
  refine Ev.bind (in_ev _ x (by omega)) ?_
  have hj : inB (joinB a b) x = (inB a x || inB b x) := by
    rw [Bool.eq_iff_iff, Bool.or_eq_true, inB_iff, inB_iff, inB_iff]
    exact (joinB_joined a b).2 x
  rw [hj]
  cases hA : inB a x with
  | true =>
    refine Ev.congr (fun k => if_pos rfl) ?_
    refine Ev.congr (fun k => if_pos (by simp)) ?_
    exact Ev.const (by rw [awake04_is]; rfl)
  | false =>
    refine Ev.congr (fun k => if_neg (by simp)) ?_
    refine Ev.bind (in_ev _ x (by omega)) ?_
    refine Ev.congr (fun k => if_pos (by simp)) ?_
    exact Ev.const (by rw [awake04_is]; rfl)
theorem joins_l0 (a b : List ByteArray) (x : ByteArray) (ha : few a) (hb : few b) : ∀ d i, i + 1 + d = (joinB a b).length + (if (joinB a b).length = 0 then 1 else 0) → Ev (fun k => althinglaw04_KeysJoins.l0 k a b x (joinB a b) ((i + 1 : Nat) : Int)) true
  | 0, i, h => by
    refine Ev.step (fun k => ?_) (joins_end a b x ha hb)
    simp only [althinglaw04_KeysJoins.l0]
    rw [if_neg (by split at h <;> omega)]
  | d + 1, i, h => by
    have hl := joinB_len a b
    have h1 := ha.1
    have h2 := hb.1
    have hil : i + 1 < (joinB a b).length := by split at h <;> omega
    refine Ev.step (fun k => ?_) (joins_l0 a b x ha hb d (i + 1) (by omega))
    simp only [althinglaw04_KeysJoins.l0]
    have e1 : wrap64 (((i + 1 : Nat) : Int) - 1) = (i : Int) := by unfold wrap64; omega
    have e2 : wrap64 (((i + 1 : Nat) : Int) + 1) = ((i + 1 + 1 : Nat) : Int) := by unfold wrap64; omega
    have hb1 : blt (joinB a b)[i] (joinB a b)[i + 1] := (List.pairwise_iff_getElem.1 (joinB_joined a b).1) i (i + 1) (by omega) hil (by omega)
    rw [e1, e2, if_pos (by omega), if_pos (by omega), if_pos (by omega), if_pos (by omega), rd_at _ i (by omega), rd_at _ (i + 1) hil, if_pos ((less_blt _ _).2 hb1)]
theorem pure_KeysJoins (x0 : List ByteArray) (x1 : List ByteArray) (x2 : ByteArray) (q0 : (inAll inStr) x0) (q1 : (inAll inStr) x1) (q2 : inStr x2) : ∃ k, X.althinglaw04_KeysJoins.f k x0 x1 x2 = some true := by
  have haw : ∀ x, Ev (fun k => althinglaw04_KeysJoins.j0 k x0 x1 x true) true := fun x => by
    refine Ev.step (f := fun _ => some true) (fun k => ?_) (Ev.const rfl)
    simp only [althinglaw04_KeysJoins.j0]
    rw [if_pos trivial, awake04_is]; rfl
  refine Ev.rounds ?_
  unfold althinglaw04_KeysJoins.f
  refine Ev.bind (few_is x0) ?_
  cases ha : fewB x0 with
  | false => exact Ev.congr (fun k => if_neg (by simp)) (haw _)
  | true =>
    refine Ev.congr (fun k => if_pos rfl) ?_
    refine Ev.bind (few_is x1) ?_
    cases hb : fewB x1 with
    | false => exact Ev.congr (fun k => if_neg (by simp)) (haw _)
    | true =>
      refine Ev.congr (fun k => if_pos rfl) ?_
      by_cases hx : (x2.size : Int) > 100
      · rw [decide_eq_true hx]; exact haw _
      · rw [decide_eq_false hx]
        rw [fewB_iff] at ha hb
        refine Ev.step (f := fun k => (keys_Join.f x0 x1).bind fun t112 => althinglaw04_KeysJoins.l0 k x0 x1 x2 t112 1) (fun k => ?_) (Ev.bind (f := fun k t => althinglaw04_KeysJoins.l0 k x0 x1 x2 t 1) (Ev.const (join_f (few_big ha) (few_big hb))) (show Ev (fun k => althinglaw04_KeysJoins.l0 k x0 x1 x2 (joinB x0 x1) 1) true from joins_l0 x0 x1 x2 ha hb ((joinB x0 x1).length - 1) 0 (by split <;> omega)))
        simp only [althinglaw04_KeysJoins.j0]
        rw [if_neg (by simp)]
end Go.Proofs.Ytcoohapohkbnpaa.Pure
