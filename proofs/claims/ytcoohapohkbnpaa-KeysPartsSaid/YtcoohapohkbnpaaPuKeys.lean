/- What the functions of layer 4 come to, in plain Lean; no memory. -/
import Derived.Test.YtcoohapohkbnpaaKeysJ
import Derived.Test.YtcoohapohkbnpaaKeysM
import Derived.Test.YtcoohapohkbnpaaKeysF
import Derived.Test.YtcoohapohkbnpaaXFalthinglaw04Few
import Derived.Test.YtcoohapohkbnpaaXFalthinglaw04awake
import Derived.Test.YtcoohapohkbnpaaXFalthingref04Rights
import Derived.Test.YtcoohapohkbnpaaXFkeysRights
namespace Go.Proofs.Ytcoohapohkbnpaa.Strs
open Go.RowKit Go.Proofs.Ytcoohapohkbnpaa.Keys Go.Proofs.YtcoohapohkbnpaaW.PrintWords Go.Proofs.YtcoohapohkbnpaaW.PrintLast Go.Proofs.YtcoohapohkbnpaaW.PrintMore Go.Proofs.Ytcoohapohkbnpaa.X
set_option linter.unusedSimpArgs false
set_option linter.unusedVariables false
theorem Ev.le {α : Type} {g : Nat → Option α} {r : α} (K : Nat) (h : ∀ k, K ≤ k → g k = some r) : Ev g r := ⟨K, h⟩
theorem Ev.const {α : Type} {g : Option α} {r : α} (h : g = some r) : Ev (fun _ => g) r := ⟨0, fun _ _ => h⟩
def fewB (l : List ByteArray) : Bool := decide (l.length ≤ 40) && l.all (fun x => decide (x.size ≤ 100))
theorem fewB_iff (l : List ByteArray) : fewB l = true ↔ few l := by
  unfold fewB few
  rw [Bool.and_eq_true, List.all_eq_true, decide_eq_true_eq]
  simp only [decide_eq_true_eq]
theorem w1 (i : Nat) (h : i ≤ 100000000) : wrap64 ((i : Int) + 1) = ((i + 1 : Nat) : Int) := by unfold wrap64; omega
theorem rd_at (l : List ByteArray) (i : Nat) (h : i < l.length) : rdOf ByteArray.empty l (i : Int) = l[i] := rd_el l i h
theorem few_l0 (l : List ByteArray) : ∀ d i, i + d = min l.length 41 → (∀ x ∈ l.take i, x.size ≤ 100) → Ev (fun k => althinglaw04_Few.l0 k l (i : Int)) (fewB l)
  | 0, i, h, ha => by
    refine Ev.step (f := fun k => althinglaw04_Few.j1 k l (i : Int) false) (fun k => ?_) (Ev.step (f := fun _ => some (decide ((l.length : Int) ≤ 40))) (fun k => ?_) (Ev.const ?_))
    · simp only [althinglaw04_Few.l0]
      by_cases hl : (i : Int) < (l.length : Int)
      · rw [if_pos hl, show decide ((i : Int) ≤ 40) = false by simp; omega]
      · rw [if_neg hl]
    · simp only [althinglaw04_Few.j1]
      rw [if_neg (by simp)]
    · congr 1
      by_cases h40 : l.length ≤ 40
      · have hi : i = l.length := by omega
        rw [hi, List.take_length] at ha
        rw [(fewB_iff l).2 ⟨h40, ha⟩]; simp; omega
      · have : fewB l ≠ true := fun e => h40 ((fewB_iff l).1 e).1
        rw [Bool.eq_false_iff.2 this]; simp; omega
  | d + 1, i, h, ha => by
    have hil : i < l.length := by omega
    refine Ev.step (f := fun k => althinglaw04_Few.j1 k l (i : Int) true) (fun k => ?_) ?_
    · simp only [althinglaw04_Few.l0]
      rw [if_pos (by omega), show decide ((i : Int) ≤ 40) = true by simp; omega]
    by_cases hx : l[i].size ≤ 100
    · refine Ev.step (f := fun k => althinglaw04_Few.l0 k l ((i + 1 : Nat) : Int)) (fun k => ?_) (few_l0 l d (i + 1) (by omega) ?_)
      · simp only [althinglaw04_Few.j1]
        rw [if_pos trivial, if_pos (by omega), if_pos (by omega), rd_at l i hil, if_neg (by omega), w1 i (by omega)]
      · intro x hx2
        rw [List.take_succ_eq_append_getElem hil, List.mem_append, List.mem_singleton] at hx2
        rcases hx2 with hx2 | rfl
        · exact ha x hx2
        · exact hx
    · refine Ev.step (f := fun _ => some false) (fun k => ?_) (Ev.const ?_)
      · simp only [althinglaw04_Few.j1]
        rw [if_pos trivial, if_pos (by omega), if_pos (by omega), rd_at l i hil, if_pos (by omega)]
      · congr 1
        have : fewB l ≠ true := fun e => hx (((fewB_iff l).1 e).2 _ (List.getElem_mem hil))
        rw [Bool.eq_false_iff.2 this]
theorem few_is (l : List ByteArray) : Ev (fun k => althinglaw04_Few.f k l) (fewB l) := few_l0 l (min l.length 41) 0 (by omega) (by simp)
theorem awake04_is : althinglaw04_awake.f = some true := by
  unfold althinglaw04_awake.f keys_Shard.f keys_Weight.f keys_Right.f
  have h1 : shardN ⟨#[97, 98]⟩ 3 = 2 := by unfold shardN; rw [ab_weight]; decide
  have h2 : shardE ⟨#[97, 98]⟩ 3 = 0 := by decide
  rw [h1, h2, if_pos (by decide), ab_weight]
  decide
theorem few_big {l : List ByteArray} (h : few l) : big l := ⟨by have := h.1; omega, fun x hx => by have := h.2 x hx; omega⟩
theorem same_is (l m : List ByteArray) (hl : l.length ≤ 2000) (h : l = m) : Ev (fun k => althinglaw04_same.f k l m) true := by
  subst h; exact ⟨2001, fun k hk => same_self l hl k hk⟩
theorem in_ev (l : List ByteArray) (x : ByteArray) (hl : l.length ≤ 2000) : Ev (fun k => althingref04_In.f k l x) (inB l x) := ⟨2001, fun k hk => in_is l x hl k hk⟩
theorem joinB_symm (a b : List ByteArray) : joinB a b = joinB b a := (joinB_joined a b).unique ((joinB_joined b a).symm)
theorem joinB_self (a b : List ByteArray) : joinB (joinB a b) (joinB a b) = joinB a b := (joinB_joined _ _).unique (Joined.self (joinB_joined a b).1)
theorem dd_len : ∀ (l acc : List ByteArray), (dd acc l).length ≤ acc.length + l.length
  | [], acc => by simp [dd]
  | x :: l, acc => by
    unfold dd
    split
    · have := dd_len l acc; simp only [List.length_cons]; omega
    · have := dd_len l (acc ++ [x]); simp only [List.length_append, List.length_cons, List.length_nil] at *; omega
theorem joinB_len (a b : List ByteArray) : (joinB a b).length ≤ a.length + b.length := by
  unfold joinB
  rw [srt_length]
  have := dd_len (a ++ b) []
  simpa using this
theorem joinB_mem {a b : List ByteArray} {x : ByteArray} (h : x ∈ joinB a b) : x ∈ a ∨ x ∈ b := ((joinB_joined a b).2 x).1 h
theorem join_f {a b : List ByteArray} (ha : big a) (hb : big b) : keys_Join.f a b = some (joinB a b) := by unfold keys_Join.f; rw [if_pos ⟨ha, hb⟩]
theorem joinB_big {a b : List ByteArray} (ha : few a) (hb : few b) : big (joinB a b) := ⟨by have := joinB_len a b; have := ha.1; have := hb.1; omega, fun x hx => by
  rcases joinB_mem hx with h | h
  · have := ha.2 x h; omega
  · have := hb.2 x h; omega⟩
theorem less_blt (x y : ByteArray) : Op.bytesLess x.toList y.toList = true ↔ blt x y := by
  rw [toList_eq, toList_eq, bytesLess_eq, decide_eq_true_eq]
  exact Iff.rfl
end Go.Proofs.Ytcoohapohkbnpaa.Strs
