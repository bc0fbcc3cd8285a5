/- Plain laws on lists of texts: a strictly rising list is fixed by what it has. No program. -/
import Derived.Test.YtcoohapohkbnpaaXFalthingref04In
import Derived.Test.YtcoohapohkbnpaaXFalthingref04Before
import Derived.Test.YtcoohapohkbnpaaXFalthinglaw04same
import Derived.Sort.Walk0
import Derived.Test.YtcoohapohkbnpaaXFalthingref04Join
namespace Go.Proofs.Ytcoohapohkbnpaa.Strs
open Go.RowKit Go.Proofs.YtcoohapohkbnpaaW.PrintWords Go.Proofs.YtcoohapohkbnpaaW.PrintLast Go.Proofs.YtcoohapohkbnpaaW.PrintMore Go.Proofs.Ytcoohapohkbnpaa.X
set_option linter.unusedSimpArgs false
set_option linter.unusedVariables false
theorem sorted_unique {α : Type} (R : α → α → Prop) (irr : ∀ x, ¬ R x x) (tr : ∀ x y z, R x y → R y z → R x z) :
    ∀ l m : List α, l.Pairwise R → m.Pairwise R → (∀ x, x ∈ l ↔ x ∈ m) → l = m
  | [], [], _, _, _ => rfl
  | [], y :: m, _, _, h => absurd ((h y).2 (by simp)) (by simp)
  | x :: l, [], _, _, h => absurd ((h x).1 (by simp)) (by simp)
  | x :: l, y :: m, hl, hm, h => by
    rw [List.pairwise_cons] at hl hm
    have hxy : x = y := by
      rcases List.mem_cons.1 ((h x).1 (by simp)) with e | e
      · exact e
      · rcases List.mem_cons.1 ((h y).2 (by simp)) with e2 | e2
        · exact e2.symm
        · exact absurd (tr _ _ _ (hm.1 x e) (hl.1 y e2)) (irr y)
    subst hxy
    congr 1
    refine sorted_unique R irr tr l m hl.2 hm.2 (fun z => ⟨fun hz => ?_, fun hz => ?_⟩)
    · rcases List.mem_cons.1 ((h z).1 (List.mem_cons_of_mem _ hz)) with e | e
      · subst e; exact absurd (hl.1 z hz) (irr z)
      · exact e
    · rcases List.mem_cons.1 ((h z).2 (List.mem_cons_of_mem _ hz)) with e | e
      · subst e; exact absurd (hm.1 z hz) (irr z)
      · exact e
theorem toList_eq (s : ByteArray) : s.toList = s.data.toList := by
  exact ByteArray.toList_eq s
def blt (x y : ByteArray) : Prop := x.data.toList < y.data.toList
theorem blt_irrefl (x : ByteArray) : ¬ blt x x := List.lt_irrefl _
theorem blt_trans (x y z : ByteArray) (h : blt x y) (h2 : blt y z) : blt x z := List.lt_trans h h2
theorem bytes_ext {x y : ByteArray} (h : x.data.toList = y.data.toList) : x = y := ByteArray.ext (Array.toList_inj.1 h)
/-- What two lists are joined: rising, and just what one of both has. -/
def Joined (a b r : List ByteArray) : Prop := r.Pairwise blt ∧ ∀ x, x ∈ r ↔ x ∈ a ∨ x ∈ b
theorem Joined.unique {a b r r' : List ByteArray} (h : Joined a b r) (h' : Joined a b r') : r = r' :=
  sorted_unique blt blt_irrefl blt_trans r r' h.1 h'.1 (fun x => (h.2 x).trans (h'.2 x).symm)
theorem Joined.symm {a b r : List ByteArray} (h : Joined a b r) : Joined b a r := ⟨h.1, fun x => (h.2 x).trans or_comm⟩
theorem Joined.self {r : List ByteArray} (h : r.Pairwise blt) : Joined r r r := ⟨h, fun x => by simp⟩
instance (x y : ByteArray) : Decidable (blt x y) := by unfold blt; exact inferInstance
theorem sz_len (s : ByteArray) : s.size = s.data.toList.length := by rw [Array.length_toList]; rfl
/-- Is a text in a list? -/
def inB (l : List ByteArray) (x : ByteArray) : Bool := l.any (fun y => decide (y.data.toList = x.data.toList))
theorem inB_iff (l : List ByteArray) (x : ByteArray) : inB l x = true ↔ x ∈ l := by
  unfold inB
  rw [List.any_eq_true]
  constructor
  · rintro ⟨y, hy, h⟩; exact bytes_ext (of_decide_eq_true h) ▸ hy
  · intro h; exact ⟨x, h, decide_eq_true rfl⟩
theorem drop_at (l : List UInt8) (i : Nat) (h : i < l.length) : l.drop i = l[i] :: l.drop (i + 1) := List.drop_eq_getElem_cons h
theorem bt_el (s : ByteArray) (i : Nat) (h : i < s.data.toList.length) : bt s (i : Int) = ((s.data.toList[i]).toNat : Int) := by
  have hs : i < s.size := by rw [sz_len]; exact h
  unfold bt
  rw [Int.toNat_natCast, dif_pos hs]
  rfl
theorem before_l0 (a b : ByteArray) (hb : b.size ≤ 2000) : ∀ d i k, i + d = b.size → i ≤ a.size → a.data.toList.take i = b.data.toList.take i → d + 1 ≤ k →
    althingref04_Before.l0 k a b (i : Int) = some (decide (a.data.toList.drop i < b.data.toList.drop i))
  | 0, i, k, h1, h2, h3, hk => by
    obtain ⟨k, rfl⟩ : ∃ k', k = k' + 1 := ⟨k - 1, by omega⟩
    unfold althingref04_Before.l0
    have hd : b.data.toList.drop i = [] := List.drop_eq_nil_of_le (by rw [← sz_len]; omega)
    rw [if_neg (by omega), hd]
    simp
  | d + 1, i, k, h1, h2, h3, hk => by
    obtain ⟨k, rfl⟩ : ∃ k', k = k' + 1 := ⟨k - 1, by omega⟩
    have hbl : i < b.data.toList.length := by rw [← sz_len]; omega
    unfold althingref04_Before.l0
    rw [if_pos (by omega), drop_at _ i hbl]
    by_cases hia : i = a.size
    · have hd : a.data.toList.drop i = [] := List.drop_eq_nil_of_le (by rw [← sz_len]; omega)
      rw [if_pos (by omega), hd]
      simp
    · have hal : i < a.data.toList.length := by rw [← sz_len]; omega
      rw [if_neg (by omega), if_pos (by omega), if_pos (by omega), bt_el a i hal, bt_el b i hbl, drop_at _ i hal]
      by_cases he : a.data.toList[i] = b.data.toList[i]
      · rw [if_pos (by rw [he]), show wrap64 ((i : Int) + 1) = ((i + 1 : Nat) : Int) by unfold wrap64; omega]
        rw [before_l0 a b hb d (i + 1) k (by omega) (by omega) (by rw [List.take_succ_eq_append_getElem hal, List.take_succ_eq_append_getElem hbl, h3, he]) (by omega)]
        congr 1
        rw [decide_eq_decide, List.cons_lt_cons_iff, he]
        constructor
        · intro h; exact .inr ⟨rfl, h⟩
        · rintro (h | h)
          · exact absurd h (by simp)
          · exact h.2
      · have hne : (a.data.toList[i]).toNat ≠ (b.data.toList[i]).toNat := fun e => he (UInt8.toNat_inj.1 e)
        rw [if_neg (by omega)]
        congr 1
        rw [decide_eq_decide, List.cons_lt_cons_iff]
        constructor
        · intro h; exact .inl (UInt8.lt_iff_toNat_lt.2 (by omega))
        · rintro (h | h)
          · have := UInt8.lt_iff_toNat_lt.1 h; omega
          · exact absurd h.1 he
theorem before_is (a b : ByteArray) (hb : b.size ≤ 2000) (k : Nat) (hk : 2001 ≤ k) : althingref04_Before.f k a b = some (decide (blt a b)) := by
  have := before_l0 a b hb b.size 0 k (by omega) (by omega) (by simp) (by omega)
  simpa [althingref04_Before.f, blt] using this
theorem in_l0 (l : List ByteArray) (x : ByteArray) (hl : l.length ≤ 2000) : ∀ d i k, i + d = l.length → d + 1 ≤ k → althingref04_In.l0 k l x (i : Int) = some (inB (l.drop i) x)
  | 0, i, k, h1, hk => by
    obtain ⟨k, rfl⟩ : ∃ k', k = k' + 1 := ⟨k - 1, by omega⟩
    unfold althingref04_In.l0
    rw [if_neg (by omega), List.drop_eq_nil_of_le (by omega)]
    rfl
  | d + 1, i, k, h1, hk => by
    obtain ⟨k, rfl⟩ : ∃ k', k = k' + 1 := ⟨k - 1, by omega⟩
    have hil : i < l.length := by omega
    have e : rdOf ByteArray.empty l (i : Int) = l[i] := by unfold rdOf; rw [Int.toNat_natCast]; simp [List.getD_eq_getElem?_getD, hil]
    unfold althingref04_In.l0
    rw [if_pos (by omega), if_pos (by omega), e, List.drop_eq_getElem_cons hil]
    by_cases hx : l[i] = x
    · rw [if_pos (by rw [hx]), hx]; simp [inB]
    · have hne : ¬ l[i].data.toList = x.data.toList := fun e => hx (bytes_ext e)
      rw [if_neg (by rw [toList_eq, toList_eq]; exact hne), show wrap64 ((i : Int) + 1) = ((i + 1 : Nat) : Int) by unfold wrap64; omega, in_l0 l x hl d (i + 1) k (by omega) (by omega)]
      unfold inB
      rw [List.any_cons, decide_eq_false hne, Bool.false_or]
theorem in_is (l : List ByteArray) (x : ByteArray) (hl : l.length ≤ 2000) (k : Nat) (hk : 2001 ≤ k) : althingref04_In.f k l x = some (inB l x) := by
  have := in_l0 l x hl l.length 0 k (by omega) (by omega)
  simpa [althingref04_In.f] using this
theorem same_l0 (l m : List ByteArray) (hl : l.length ≤ 2000) (hm : l.length = m.length) : ∀ d i k, i + d = l.length → d + 1 ≤ k → l.drop i = m.drop i → althinglaw04_same.l0 k l m (l.length : Int) (i : Int) = some true
  | 0, i, k, h1, hk, he => by
    obtain ⟨k, rfl⟩ : ∃ k', k = k' + 1 := ⟨k - 1, by omega⟩
    unfold althinglaw04_same.l0
    rw [if_neg (by omega)]
  | d + 1, i, k, h1, hk, he => by
    obtain ⟨k, rfl⟩ : ∃ k', k = k' + 1 := ⟨k - 1, by omega⟩
    have hil : i < l.length := by omega
    have him : i < m.length := by omega
    have e : rdOf ByteArray.empty l (i : Int) = l[i] := by unfold rdOf; rw [Int.toNat_natCast]; simp [List.getD_eq_getElem?_getD, hil]
    have e2 : rdOf ByteArray.empty m (i : Int) = m[i] := by unfold rdOf; rw [Int.toNat_natCast]; simp [List.getD_eq_getElem?_getD, him]
    rw [List.drop_eq_getElem_cons hil, List.drop_eq_getElem_cons him, List.cons.injEq] at he
    unfold althinglaw04_same.l0
    rw [if_pos (by omega), if_pos (by omega), if_pos (by omega), if_pos (by omega), e, e2, if_pos (by rw [he.1]), show wrap64 ((i : Int) + 1) = ((i + 1 : Nat) : Int) by unfold wrap64; omega]
    exact same_l0 l m hl hm d (i + 1) k (by omega) (by omega) he.2
theorem same_self (l : List ByteArray) (hl : l.length ≤ 2000) (k : Nat) (hk : 2001 ≤ k) : althinglaw04_same.f k l l = some true := by
  unfold althinglaw04_same.f
  rw [if_pos rfl]
  exact same_l0 l l hl rfl l.length 0 k (by omega) (by omega) rfl
/-- May texts be gone through? -/
def few (l : List ByteArray) : Prop := l.length ≤ 40 ∧ ∀ x ∈ l, x.size ≤ 100
end Go.Proofs.Ytcoohapohkbnpaa.Strs
