/- KeysLists, the plain law. -/
import Derived.Test.YtcoohapohkbnpaaPuRights
import Derived.Test.YtcoohapohkbnpaaXFalthinglaw04KeysLists
import Derived.Test.YtcoohapohkbnpaaOpn
namespace Go.Proofs.Ytcoohapohkbnpaa.Pure
open Go.RowKit Go.Proofs.Ytcoohapohkbnpaa.Strs Go.Proofs.YtcoohapohkbnpaaW.PrintWords Go.Proofs.YtcoohapohkbnpaaW.PrintLast Go.Proofs.YtcoohapohkbnpaaW.PrintMore Go.Proofs.Ytcoohapohkbnpaa.X
set_option linter.unusedSimpArgs false
set_option linter.unusedVariables false
theorem lists_l1 (a b : List ByteArray) (ha : few a) (hb : few b) : ∀ d i (l : List ByteArray) (n : Int), n = l.length → i + d = l.length → l.length ≤ 80 → (∀ x ∈ l.drop i, x.size ≤ 2000) → Ev (fun k => althinglaw04_KeysLists.l1 k a b a b l n (i : Int)) true
  | 0, i, l, n, hn, h, hl, hz => by
    refine Ev.step (f := fun k => (althinglaw04_same.f k a a).bind fun t221 => (if t221 = true then ((althinglaw04_same.f k b b).bind fun t222 => (if t222 = true then ((althinglaw04_awake.f).bind fun t223 => (some t223)) else (none))) else (none))) (fun k => ?_) ?_
    · simp only [althinglaw04_KeysLists.l1]
      rw [if_neg (by omega)]
    · refine Ev.bind (same_is a a (by have := ha.1; omega) rfl) (Ev.congr (fun k => if_pos rfl) ?_)
      refine Ev.bind (same_is b b (by have := hb.1; omega) rfl) (Ev.congr (fun k => if_pos rfl) ?_)
      exact Ev.const (by rw [awake04_is]; rfl)
  | d + 1, i, l, n, hn, h, hl, hz => by
    have hx : (rdOf ByteArray.empty l (i : Int)).size ≤ 2000 := by rw [rd_at l i (by omega)]; exact hz _ (by rw [List.drop_eq_getElem_cons (by omega)]; exact List.mem_cons_self)
    refine Ev.step (f := fun k => althinglaw04_KeysLists.l1 k a b a b (l.set i (rdOf ByteArray.empty l (i : Int) ++ ⟨#[120]⟩)) n ((i + 1 : Nat) : Int)) (fun k => ?_) (lists_l1 a b ha hb d (i + 1) _ n (by rw [List.length_set]; exact hn) (by rw [List.length_set]; omega) (by rw [List.length_set]; exact hl) ?_)
    · simp only [althinglaw04_KeysLists.l1]
      rw [if_pos (by omega), if_pos (by omega), if_pos (by omega), if_pos (by omega), Int.toNat_natCast, w1 i (by omega)]
    · intro x hx2
      rw [List.drop_set_of_lt (by omega)] at hx2
      exact hz x (by rw [List.drop_eq_getElem_cons (by omega)]; exact List.mem_cons_of_mem _ hx2)
theorem lists_j2 (a b : List ByteArray) (ha : few a) (hb : few b) : Ev (fun k => althinglaw04_KeysLists.j2 k a b a b (joinB a b) false) true := by
  refine Ev.step (f := fun k => althinglaw04_KeysLists.l1 k a b a b (joinB a b) ((joinB a b).length : Int) 0) (fun k => ?_) (lists_l1 a b ha hb (joinB a b).length 0 (joinB a b) _ rfl (by omega) (by have := joinB_len a b; have := ha.1; have := hb.1; omega) (by simpa using (joinB_big ha hb).2))
  simp only [althinglaw04_KeysLists.j2]
  rw [if_neg (by simp)]
theorem lists_end (a b : List ByteArray) (ha : few a) (hb : few b) : Ev (fun k => ((althingref04_Join.f k a b).bind fun t212 => ((althinglaw04_same.f k (joinB a b) t212).bind fun t215 => (if t215 = true then ((keys_Meet.f a b).bind fun t216 => (if (t216 != (meetB a b)) = true then (althinglaw04_KeysLists.j2 k a b a b (joinB a b) true) else ((keys_Rights.f k a).bind fun t217 => ((althingref04_Rights.f k a).bind fun t218 => (althinglaw04_KeysLists.j2 k a b a b (joinB a b) (t217 != t218)))))) else (althinglaw04_KeysLists.j2 k a b a b (joinB a b) true))))) true := by
  obtain ⟨K, hK⟩ := refJoin_is a b ha hb
  have hJ : Ev (fun k => althingref04_Join.f k a b) (joinB a b) := ⟨K, fun k hk => by
    obtain ⟨r, hr, hj⟩ := hK k hk
    show althingref04_Join.f k a b = _
    rw [hr, hj.unique (joinB_joined a b)]⟩
  have h1 := ha.1
  have h2 := hb.1
  refine Ev.bind hJ ?_
  refine Ev.bind (same_is _ _ (by have := joinB_len a b; omega) rfl) (Ev.congr (fun k => if_pos rfl) ?_)
  refine Ev.bind (Ev.const (show keys_Meet.f a b = some (meetB a b) from rfl)) ?_
  refine Ev.congr (fun k => if_neg (by simp)) ?_
  refine Ev.bind (rights_is a (by omega)) ?_
  refine Ev.bind (rrights_is a (by omega) (fun x hx => by have := ha.2 x hx; omega)) ?_
  rw [show (rightsB a != rightsB a) = false by simp]
  exact lists_j2 a b ha hb
theorem lists_l0 (a b : List ByteArray) (ha : few a) (hb : few b) : ∀ d i (v : Bool), i + d = a.length → v = meetB (a.take i) b → Ev (fun k => althinglaw04_KeysLists.l0 k a b a b (joinB a b) v a (a.length : Int) (i : Int)) true
  | 0, i, v, h, hv => by
    have hi : i = a.length := by omega
    rw [hi, List.take_length] at hv
    subst hv
    refine Ev.step (fun k => ?_) (lists_end a b ha hb)
    simp only [althinglaw04_KeysLists.l0]
    rw [if_neg (by omega)]
  | d + 1, i, v, h, hv => by
    have hil : i < a.length := by omega
    have h1 := ha.1
    have hn : meetB (a.take (i + 1)) b = (v || inB b a[i]) := by
      unfold meetB at hv ⊢
      rw [List.take_succ_eq_append_getElem hil, List.any_append, ← hv, List.any_cons, List.any_nil, Bool.or_false]
    cases v with
    | true =>
      refine Ev.step (fun k => ?_) (lists_l0 a b ha hb d (i + 1) true (by omega) (by rw [hn]; rfl))
      simp only [althinglaw04_KeysLists.l0]
      rw [if_pos (by omega), if_pos (by omega), if_pos (by omega), if_pos trivial, w1 i (by omega)]
    | false =>
      refine Ev.step (f := fun k => (althingref04_In.f k b (rdOf ByteArray.empty a (i : Int))).bind fun t211 => (althinglaw04_KeysLists.l0 k a b a b (joinB a b) t211 a (a.length : Int) ((i + 1 : Nat) : Int))) (fun k => ?_) ?_
      · simp only [althinglaw04_KeysLists.l0]
        rw [if_pos (by omega), if_pos (by omega), if_pos (by omega), if_neg (by simp), w1 i (by omega)]
      · refine Ev.bind (in_ev b _ (by have := hb.1; omega)) ?_
        exact lists_l0 a b ha hb d (i + 1) _ (by omega) (by rw [hn, rd_at a i hil]; rfl)
theorem pure_KeysLists (x0 : List ByteArray) (x1 : List ByteArray) (q0 : (inAll inStr) x0) (q1 : (inAll inStr) x1) : ∃ k, X.althinglaw04_KeysLists.f k x0 x1 = some true := by
  have haw : Ev (fun k => althinglaw04_KeysLists.j0 k x0 x1 true) true := by
    refine Ev.step (f := fun _ => some true) (fun k => ?_) (Ev.const rfl)
    simp only [althinglaw04_KeysLists.j0]
    rw [if_pos trivial, awake04_is]; rfl
  refine Ev.rounds ?_
  unfold althinglaw04_KeysLists.f
  refine Ev.bind (few_is x0) ?_
  cases ha : fewB x0 with
  | false => exact Ev.congr (fun k => if_neg (by simp)) haw
  | true =>
    refine Ev.congr (fun k => if_pos rfl) ?_
    refine Ev.bind (few_is x1) ?_
    cases hb : fewB x1 with
    | false => exact haw
    | true =>
      rw [fewB_iff] at ha hb
      have h1 := ha.1
      have h2 := hb.1
      refine Ev.step (f := fun k => althinglaw04_KeysLists.l0 k x0 x1 x0 x1 (joinB x0 x1) false x0 (x0.length : Int) 0) (fun k => ?_) (lists_l0 x0 x1 ha hb x0.length 0 false (by omega) rfl)
      simp only [althinglaw04_KeysLists.j0, Bool.not_true]
      rw [if_neg (by simp)]
      simp only [Option.bind_some, List.nil_append, List.length_nil]
      rw [if_pos (by omega), if_pos (by omega), join_f (few_big ha) (few_big hb), Option.bind_some]
end Go.Proofs.Ytcoohapohkbnpaa.Pure
