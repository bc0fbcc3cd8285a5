/- The reference's Join, in plain Lean: what it gives is rising and has just the members of both. -/
import Derived.Test.YtcoohapohkbnpaaYStrs
namespace Go.Proofs.Ytcoohapohkbnpaa.Strs
open Go.RowKit Go.Proofs.YtcoohapohkbnpaaW.PrintWords Go.Proofs.YtcoohapohkbnpaaW.PrintLast Go.Proofs.YtcoohapohkbnpaaW.PrintMore Go.Proofs.Ytcoohapohkbnpaa.X
set_option linter.unusedSimpArgs false
set_option linter.unusedVariables false
theorem blt_tri (x y : ByteArray) (h : ¬ blt x y) (hne : x ≠ y) : blt y x := by
  unfold blt at *
  rcases Std.lt_trichotomy x.data.toList y.data.toList with h1 | h1 | h1
  · exact absurd h1 h
  · exact absurd (bytes_ext h1) hne
  · exact h1
theorem ins_sorted (out : List ByteArray) (x : ByteArray) (q : Nat) (h : out.Pairwise blt) (h1 : ∀ y ∈ out.take q, blt y x) (h2 : ∀ y ∈ out.drop q, blt x y) :
    (out.take q ++ [x] ++ out.drop q).Pairwise blt := by
  have hh : (out.take q ++ out.drop q).Pairwise blt := by rw [List.take_append_drop]; exact h
  rw [List.pairwise_append] at hh
  rw [List.append_assoc, List.pairwise_append]
  refine ⟨hh.1, ?_, ?_⟩
  · rw [List.singleton_append, List.pairwise_cons]; exact ⟨h2, hh.2.1⟩
  · intro a ha b hb
    rw [List.singleton_append, List.mem_cons] at hb
    rcases hb with rfl | hb
    · exact h1 a ha
    · exact hh.2.2 a ha b hb
theorem ins_mem (out : List ByteArray) (x : ByteArray) (q : Nat) (y : ByteArray) : y ∈ out.take q ++ [x] ++ out.drop q ↔ y ∈ out ∨ y = x := by
  conv => rhs; rw [← List.take_append_drop q out]
  simp only [List.mem_append, List.mem_singleton]
  constructor
  · rintro ((h | h) | h)
    · exact .inl (.inl h)
    · exact .inr h
    · exact .inl (.inr h)
  · rintro ((h | h) | h)
    · exact .inl (.inl h)
    · exact .inr h
    · exact .inl (.inr h)
theorem ins_len (out : List ByteArray) (x : ByteArray) (q : Nat) : (out.take q ++ [x] ++ out.drop q).length = out.length + 1 := by
  simp only [List.length_append, List.length_take, List.length_drop, List.length_singleton]; omega
def JoinedTo (l r : List ByteArray) : Prop := r.Pairwise blt ∧ ∀ x, x ∈ r ↔ x ∈ l
theorem head_below (out : List ByteArray) (x : ByteArray) (q : Nat) (h : out.Pairwise blt) (hq : q < out.length) (hx : x ∉ out) (hb : ¬ blt out[q] x) : ∀ y ∈ out.drop q, blt x y := by
  have h0 : blt x out[q] := blt_tri _ _ hb (fun e => hx (e ▸ List.getElem_mem hq))
  intro y hy
  rw [List.drop_eq_getElem_cons hq, List.mem_cons] at hy
  rcases hy with rfl | hy
  · exact h0
  · have hh : (out.drop q).Pairwise blt := h.sublist (List.drop_sublist _ _)
    rw [List.drop_eq_getElem_cons hq, List.pairwise_cons] at hh
    exact blt_trans _ _ _ h0 (hh.1 y hy)
theorem rd_el (l : List ByteArray) (i : Nat) (h : i < l.length) : rdOf ByteArray.empty l (i : Int) = l[i] := by
  unfold rdOf; rw [Int.toNat_natCast]; simp [List.getD_eq_getElem?_getD, h]
theorem join_l1 (l : List ByteArray) (hl : l.length ≤ 80) (hz : ∀ x ∈ l, x.size ≤ 2000) (i : Nat) (hi : i < l.length) (K : Nat)
    (h0 : ∀ out k, out.Pairwise blt → (∀ x, x ∈ out ↔ x ∈ l.take (i + 1)) → out.length ≤ i + 1 → K ≤ k → ∃ r, althingref04_Join.l0 k out l ((i + 1 : Nat) : Int) = some r ∧ JoinedTo l r)
    (out : List ByteArray) (hs : out.Pairwise blt) (hm : ∀ x, x ∈ out ↔ x ∈ l.take i) (hn : out.length ≤ i) (hx : l[i] ∉ out) :
    ∀ d q k, q + d = out.length → (∀ y ∈ out.take q, blt y l[i]) → K + 2001 + d + 1 ≤ k → ∃ r, althingref04_Join.l1 k out l (i : Int) (q : Int) = some r ∧ JoinedTo l r := by
  have hmem : ∀ q y, y ∈ out.take q ++ [l[i]] ++ out.drop q ↔ y ∈ l.take (i + 1) := fun q y => by
    rw [ins_mem, hm, List.take_succ_eq_append_getElem hi, List.mem_append, List.mem_singleton]
  have hw : wrap64 ((i : Int) + 1) = ((i + 1 : Nat) : Int) := by unfold wrap64; omega
  intro d
  induction d with
  | zero =>
    intro q k hq hlow hk
    obtain ⟨k, rfl⟩ : ∃ k', k = k' + 1 := ⟨k - 1, by omega⟩
    obtain rfl : q = out.length := by omega
    have hd : out.drop out.length = [] := List.drop_eq_nil_of_le (Nat.le_refl _)
    obtain ⟨r, hr, hj⟩ := h0 (out.take out.length ++ [l[i]] ++ out.drop out.length) k (ins_sorted out l[i] out.length hs hlow (by rw [hd]; simp)) (hmem _) (by rw [ins_len]; omega) (by omega)
    refine ⟨r, ?_, hj⟩
    unfold althingref04_Join.l1
    rw [if_neg (by omega)]
    simp only [Option.bind_some, Int.toNat_natCast, List.nil_append, rd_el l i hi]
    rw [if_pos (by omega), if_pos (by omega), if_pos (by simp), if_pos (by omega), if_pos (by omega), if_pos (by simp; omega), if_pos (by simp; omega), hw]
    exact hr
  | succ d ih =>
    intro q k hq hlow hk
    obtain ⟨k, rfl⟩ : ∃ k', k = k' + 1 := ⟨k - 1, by omega⟩
    have hql : q < out.length := by omega
    unfold althingref04_Join.l1
    rw [if_pos (by omega), if_pos (by omega), if_pos (by omega), if_pos (by omega), rd_el l i hi, rd_el out q hql, before_is _ _ (hz _ (List.getElem_mem hi)) k (by omega)]
    simp only [Option.bind_some]
    by_cases hb : blt out[q] l[i]
    · rw [if_pos (decide_eq_true hb), show wrap64 ((q : Int) + 1) = ((q + 1 : Nat) : Int) by unfold wrap64; omega]
      refine ih (q + 1) k (by omega) ?_ (by omega)
      intro y hy
      rw [List.take_succ_eq_append_getElem hql, List.mem_append, List.mem_singleton] at hy
      rcases hy with hy | rfl
      · exact hlow y hy
      · exact hb
    · rw [if_neg (by rw [decide_eq_true_eq]; exact hb)]
      obtain ⟨r, hr, hj⟩ := h0 (out.take q ++ [l[i]] ++ out.drop q) k (ins_sorted out l[i] q hs hlow (head_below out l[i] q hs hql hx hb)) (hmem _) (by rw [ins_len]; omega) (by omega)
      refine ⟨r, ?_, hj⟩
      simp only [Int.toNat_natCast, List.nil_append]
      rw [if_pos (by omega), if_pos (by simp; omega), if_pos (by simp; omega), if_pos (by simp; omega), hw]
      exact hr
theorem join_l0 (l : List ByteArray) (hl : l.length ≤ 80) (hz : ∀ x ∈ l, x.size ≤ 2000) : ∀ d i, i + d = l.length → ∃ K, ∀ out k, out.Pairwise blt → (∀ x, x ∈ out ↔ x ∈ l.take i) → out.length ≤ i → K ≤ k → ∃ r, althingref04_Join.l0 k out l (i : Int) = some r ∧ JoinedTo l r
  | 0, i, h => ⟨1, fun out k hs hm hn hk => by
      obtain ⟨k, rfl⟩ : ∃ k', k = k' + 1 := ⟨k - 1, by omega⟩
      refine ⟨out, ?_, hs, fun x => by rw [hm, List.take_of_length_le (by omega)]⟩
      unfold althingref04_Join.l0
      rw [if_neg (by omega)]⟩
  | d + 1, i, h => by
    obtain ⟨K, hK⟩ := join_l0 l hl hz d (i + 1) (by omega)
    have hi : i < l.length := by omega
    refine ⟨K + 2001 + i + 3, fun out k hs hm hn hk => ?_⟩
    obtain ⟨k, rfl⟩ : ∃ k', k = k' + 1 := ⟨k - 1, by omega⟩
    unfold althingref04_Join.l0
    rw [if_pos (by omega), if_pos (by omega), rd_el l i hi, in_is out _ (by omega) k (by omega)]
    simp only [Option.bind_some]
    by_cases hx : l[i] ∈ out
    · rw [if_pos ((inB_iff _ _).2 hx), show wrap64 ((i : Int) + 1) = ((i + 1 : Nat) : Int) by unfold wrap64; omega]
      refine hK out k hs (fun x => ?_) (by omega) (by omega)
      rw [List.take_succ_eq_append_getElem hi, List.mem_append, List.mem_singleton, hm]
      constructor
      · exact .inl
      · rintro (h | rfl)
        · exact h
        · exact (hm _).1 hx
    · rw [if_neg (fun e => hx ((inB_iff _ _).1 e))]
      exact join_l1 l hl hz i hi K (fun out k a b c d => hK out k a b c d) out hs hm hn hx out.length 0 k (by omega) (by simp) (by omega)
theorem refJoin_is (a b : List ByteArray) (ha : few a) (hb : few b) : ∃ K, ∀ k, K ≤ k → ∃ r, althingref04_Join.f k a b = some r ∧ Joined a b r := by
  obtain ⟨K, hK⟩ := join_l0 (a ++ b) (by rw [List.length_append]; have := ha.1; have := hb.1; omega) (fun x hx => by rcases List.mem_append.1 hx with h | h; have := ha.2 x h; omega; have := hb.2 x h; omega) (a ++ b).length 0 (by omega)
  refine ⟨K, fun k hk => ?_⟩
  obtain ⟨r, hr, hj⟩ := hK [] k (by simp) (by simp) (by simp) hk
  refine ⟨r, ?_, hj.1, fun x => (hj.2 x).trans List.mem_append⟩
  unfold althingref04_Join.f
  simp only [Option.bind_some, List.nil_append, List.length_nil]
  have := ha.1
  have := hb.1
  rw [if_pos (by omega), if_pos (by omega)]
  exact hr
end Go.Proofs.Ytcoohapohkbnpaa.Strs
