/- Rights: that some keys may be; a loop that looks at each element in turn. -/
import Derived.Test.YtcoohapohkbnpaaPuKeys
namespace Go.Proofs.Ytcoohapohkbnpaa.Strs
open Go.RowKit Go.Proofs.Ytcoohapohkbnpaa.Keys Go.Proofs.YtcoohapohkbnpaaW.PrintWords Go.Proofs.YtcoohapohkbnpaaW.PrintLast Go.Proofs.YtcoohapohkbnpaaW.PrintMore Go.Proofs.Ytcoohapohkbnpaa.X
set_option linter.unusedSimpArgs false
set_option linter.unusedVariables false
/-- A loop that goes on while what it looks at is fine. -/
theorem Ev.scan {F : Nat → Int → Option Bool} (n : Nat) (ok : Nat → Bool) (fin : Bool)
    (h1 : ∀ i, i < n → ok i = true → ∀ r, Ev (fun k => F k ((i + 1 : Nat) : Int)) r → Ev (fun k => F k (i : Int)) r)
    (h2 : ∀ i, i < n → ok i = false → Ev (fun k => F k (i : Int)) false) (h3 : Ev (fun k => F k (n : Int)) fin) : Ev (fun k => F k 0) ((List.range n).all ok && fin) := by
  have h : ∀ d i, i + d = n → Ev (fun k => F k (i : Int)) ((List.range' i d).all ok && fin) := by
    intro d
    induction d with
    | zero =>
      intro i hi
      obtain rfl : i = n := by omega
      simpa using h3
    | succ d ih =>
      intro i hi
      rw [List.range'_succ, List.all_cons]
      cases hk : ok i with
      | true => simpa using h1 i (by omega) hk _ (ih (i + 1) (by omega))
      | false => simpa using h2 i (by omega) hk
  have := h n 0 (by omega)
  rwa [← List.range_eq_range'] at this
def okAt (l : List ByteArray) (i : Nat) : Bool := okKey (l.getD i ByteArray.empty) && (decide (i = 0) || decide (blt (l.getD (i - 1) ByteArray.empty) (l.getD i ByteArray.empty)))
def rightsB (l : List ByteArray) : Bool := (List.range l.length).all (okAt l) && decide (l.length ≤ 8)
theorem getD_at (l : List ByteArray) (i : Nat) (h : i < l.length) : l.getD i ByteArray.empty = l[i] := by simp [List.getD_eq_getElem?_getD, h]
theorem rightsB_iff (l : List ByteArray) : rightsB l = true ↔ (∀ x ∈ l, okKey x = true) ∧ l.Pairwise blt ∧ l.length ≤ 8 := by
  unfold rightsB
  rw [Bool.and_eq_true, List.all_eq_true, decide_eq_true_eq]
  constructor
  · rintro ⟨h, h8⟩
    have h' : ∀ i, i < l.length → okAt l i = true := fun i hi => h i (by simpa using hi)
    refine ⟨fun x hx => ?_, ?_, h8⟩
    · obtain ⟨i, hi, rfl⟩ := List.getElem_of_mem hx
      have := h' i hi
      unfold okAt at this
      rw [Bool.and_eq_true, getD_at l i hi] at this
      exact this.1
    · have hadj : ∀ i, (hi : i + 1 < l.length) → blt l[i] l[i + 1] := fun i hi => by
        have := h' (i + 1) hi
        unfold okAt at this
        rw [Bool.and_eq_true, getD_at l (i + 1) hi, show i + 1 - 1 = i by omega, getD_at l i (by omega), Bool.or_eq_true, decide_eq_true_eq, decide_eq_true_eq] at this
        rcases this.2 with h0 | h0
        · omega
        · exact h0
      rw [List.pairwise_iff_getElem]
      intro i j hi hj hij
      obtain ⟨d, rfl⟩ : ∃ d, j = i + 1 + d := ⟨j - i - 1, by omega⟩
      clear hij
      induction d with
      | zero => exact hadj i hj
      | succ d ih => exact blt_trans _ _ _ (ih (by omega)) (hadj (i + 1 + d) hj)
  · rintro ⟨hok, hp, h8⟩
    refine ⟨fun i hi => ?_, h8⟩
    have hil : i < l.length := by simpa using hi
    unfold okAt
    rw [Bool.and_eq_true, getD_at l i hil, Bool.or_eq_true, decide_eq_true_eq, decide_eq_true_eq]
    refine ⟨hok _ (List.getElem_mem hil), ?_⟩
    by_cases h0 : i = 0
    · exact .inl h0
    · right
      rw [getD_at l (i - 1) (by omega)]
      exact (List.pairwise_iff_getElem.1 hp) (i - 1) i (by omega) hil (by omega)
theorem right_f (x : ByteArray) : keys_Right.f x = some (okKey x) := by
  unfold keys_Right.f okKey
  by_cases h : (x.size : Int) ≥ 1
  · rw [if_pos h]; congr 1; rw [decide_eq_decide]; omega
  · rw [if_neg h]; congr 1; symm; rw [decide_eq_false_iff_not]; omega
theorem rright_f (x : ByteArray) : althingref04_Right.f x = some (okKey x) := by
  unfold althingref04_Right.f okKey
  by_cases h : (x.size : Int) > 0
  · rw [if_pos h]; congr 1; rw [decide_eq_decide]; omega
  · rw [if_neg h]; congr 1; symm; rw [decide_eq_false_iff_not]; omega
theorem rd_getD (l : List ByteArray) (i : Nat) : rdOf ByteArray.empty l (i : Int) = l.getD i ByteArray.empty := by unfold rdOf; rw [Int.toNat_natCast]
theorem wm1 (i : Nat) (h : i ≤ 100000000) (h0 : i ≠ 0) : wrap64 ((i : Int) - 1) = ((i - 1 : Nat) : Int) := by unfold wrap64; omega
theorem rights_is (l : List ByteArray) (hl : l.length ≤ 2000) : Ev (fun k => keys_Rights.f k l) (rightsB l) := by
  refine Ev.scan (F := fun k i => keys_Rights.l0 k l l (l.length : Int) i) l.length (okAt l) _ (fun i hi hok r hr => ?_) (fun i hi hok => ?_) ?_
  · refine Ev.step (fun k => ?_) hr
    simp only [keys_Rights.l0]
    unfold okAt at hok
    rw [Bool.and_eq_true] at hok
    rw [if_pos (by omega), if_pos (by omega), if_pos (by omega), right_f, Option.bind_some, rd_getD, hok.1, if_pos rfl]
    by_cases h0 : i = 0
    · rw [if_neg (by omega), w1 i (by omega)]
    · have hb : blt (l.getD (i - 1) ByteArray.empty) (l.getD i ByteArray.empty) := by simpa [h0] using hok.2
      rw [if_pos (by omega), wm1 i (by omega) h0, if_pos (by omega), if_pos (by omega), rd_getD, if_pos ((less_blt _ _).2 hb), w1 i (by omega)]
  · refine Ev.step (f := fun _ => some false) (fun k => ?_) (Ev.const rfl)
    simp only [keys_Rights.l0]
    unfold okAt at hok
    rw [if_pos (by omega), if_pos (by omega), if_pos (by omega), right_f, Option.bind_some, rd_getD]
    cases ho : okKey (l.getD i ByteArray.empty) with
    | false => rw [if_neg (by simp)]
    | true =>
      rw [ho, Bool.true_and, Bool.or_eq_false_iff, decide_eq_false_iff_not, decide_eq_false_iff_not] at hok
      rw [if_pos rfl, if_pos (by omega), wm1 i (by omega) hok.1, if_pos (by omega), if_pos (by omega), rd_getD, if_neg (fun e => hok.2 ((less_blt _ _).1 e))]
  · refine Ev.step (f := fun _ => some (decide ((l.length : Int) ≤ 8))) (fun k => ?_) (Ev.const ?_)
    · simp only [keys_Rights.l0]
      rw [if_neg (by omega)]
    · congr 1; rw [decide_eq_decide]; omega
theorem rrights_is (l : List ByteArray) (hl : l.length ≤ 2000) (hz : ∀ x ∈ l, x.size ≤ 2000) : Ev (fun k => althingref04_Rights.f k l) (rightsB l) := by
  have hzg : ∀ i, (l.getD i ByteArray.empty).size ≤ 2000 := fun i => by
    by_cases hi : i < l.length
    · rw [getD_at l i hi]; exact hz _ (List.getElem_mem hi)
    · rw [List.getD_eq_getElem?_getD, List.getElem?_eq_none (by omega)]; decide
  refine Ev.scan (F := fun k i => althingref04_Rights.l0 k l i) l.length (okAt l) _ (fun i hi hok r hr => ?_) (fun i hi hok => ?_) ?_
  · unfold okAt at hok
    rw [Bool.and_eq_true] at hok
    by_cases h0 : i = 0
    · refine Ev.step (fun k => ?_) hr
      simp only [althingref04_Rights.l0]
      rw [if_pos (by omega), if_pos (by omega), rright_f, Option.bind_some, rd_getD, hok.1, if_pos rfl, if_neg (by omega), w1 i (by omega)]
    · have hb : blt (l.getD (i - 1) ByteArray.empty) (l.getD i ByteArray.empty) := by simpa [h0] using hok.2
      refine Ev.step (f := fun k => (althingref04_Before.f k (l.getD (i - 1) ByteArray.empty) (l.getD i ByteArray.empty)).bind fun t => if t = true then althingref04_Rights.l0 k l ((i + 1 : Nat) : Int) else some false) (fun k => ?_) (Ev.bind (a := true) ⟨2001, fun k hk => ?_⟩ (Ev.congr (fun k => if_pos rfl) hr))
      · simp only [althingref04_Rights.l0]
        rw [if_pos (by omega), if_pos (by omega), rright_f, Option.bind_some, rd_getD, hok.1, if_pos rfl, if_pos (by omega), wm1 i (by omega) h0, if_pos (by omega), if_pos (by omega), rd_getD, w1 i (by omega)]
      · show althingref04_Before.f k _ _ = _
        rw [before_is _ _ (hzg i) k hk, decide_eq_true hb]
  · unfold okAt at hok
    cases ho : okKey (l.getD i ByteArray.empty) with
    | false =>
      refine Ev.step (f := fun _ => some false) (fun k => ?_) (Ev.const rfl)
      simp only [althingref04_Rights.l0]
      rw [if_pos (by omega), if_pos (by omega), rright_f, Option.bind_some, rd_getD, ho, if_neg (by simp)]
    | true =>
      rw [ho, Bool.true_and, Bool.or_eq_false_iff, decide_eq_false_iff_not, decide_eq_false_iff_not] at hok
      refine Ev.step (f := fun k => (althingref04_Before.f k (l.getD (i - 1) ByteArray.empty) (l.getD i ByteArray.empty)).bind fun t => if t = true then althingref04_Rights.l0 k l ((i + 1 : Nat) : Int) else some false) (fun k => ?_) (Ev.bind (a := false) ⟨2001, fun k hk => ?_⟩ (Ev.congr (fun k => if_neg (by simp)) (Ev.const rfl)))
      · simp only [althingref04_Rights.l0]
        rw [if_pos (by omega), if_pos (by omega), rright_f, Option.bind_some, rd_getD, ho, if_pos rfl, if_pos (by omega), wm1 i (by omega) hok.1, if_pos (by omega), if_pos (by omega), rd_getD, w1 i (by omega)]
      · show althingref04_Before.f k _ _ = _
        rw [before_is _ _ (hzg i) k hk, decide_eq_false hok.2]
  · refine Ev.step (f := fun _ => some (decide ((l.length : Int) ≤ 8))) (fun k => ?_) (Ev.const ?_)
    · simp only [althingref04_Rights.l0]
      rw [if_neg (by omega)]
    · congr 1; rw [decide_eq_decide]; omega
end Go.Proofs.Ytcoohapohkbnpaa.Strs
