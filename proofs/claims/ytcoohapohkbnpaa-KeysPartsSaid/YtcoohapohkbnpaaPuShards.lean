/- Mask and Of: keys by shards, in plain Lean. -/
import Derived.Test.YtcoohapohkbnpaaPuRights
import Derived.Test.YtcoohapohkbnpaaBits
import Derived.Test.YtcoohapohkbnpaaXFkeysMask
import Derived.Test.YtcoohapohkbnpaaXFkeysOf
namespace Go.Proofs.Ytcoohapohkbnpaa.Strs
open Go.RowKit Go.Proofs.Ytcoohapohkbnpaa.Keys Go.Proofs.YtcoohapohkbnpaaW.PrintWords Go.Proofs.YtcoohapohkbnpaaW.PrintLast Go.Proofs.YtcoohapohkbnpaaW.PrintMore Go.Proofs.Ytcoohapohkbnpaa.X
set_option linter.unusedSimpArgs false
set_option linter.unusedVariables false
theorem shardN_range {s : ByteArray} {m : Int} (h : okKey s = true) (h1 : 1 ≤ m) (h4 : m ≤ 4) : 0 ≤ shardN s m ∧ shardN s m < m := by
  unfold shardN
  rw [if_pos ⟨h, h1, h4⟩]
  exact ⟨Int.emod_nonneg _ (by omega), Int.emod_lt_of_pos _ (by omega)⟩
theorem shardE_ok {s : ByteArray} {m : Int} (h : okKey s = true) (h1 : 1 ≤ m) (h4 : m ≤ 4) : shardE s m = 0 := by
  unfold shardE
  rw [if_pos ⟨h, h1, h4⟩]
theorem sub_len : ∀ (l m : List ByteArray), l.Pairwise blt → (∀ x ∈ l, x ∈ m) → l.length ≤ m.length
  | [], m, _, _ => by simp
  | x :: l, m, hl, hs => by
    rw [List.pairwise_cons] at hl
    have h1 := sub_len l (m.filter (fun y => decide (y.data.toList ≠ x.data.toList))) hl.2 (fun y hy => by
      rw [List.mem_filter]
      refine ⟨hs y (List.mem_cons_of_mem _ hy), decide_eq_true fun e => ?_⟩
      exact blt_irrefl x (by have := hl.1 y hy; rwa [bytes_ext e] at this))
    have h2 : (m.filter (fun y => decide (y.data.toList ≠ x.data.toList))).length < m.length := by
      rw [List.length_filter_lt_length_iff_exists]
      exact ⟨x, hs x (by simp), by simp⟩
    simp only [List.length_cons]
    omega
def ofL (l : List ByteArray) (c sh : Int) : List ByteArray := l.filter (fun x => decide (shardE x sh = 0 ∧ shardN x sh = c))
theorem of_l0 (l : List ByteArray) (c sh : Int) (hl : l.length ≤ 2000) : ∀ d i, i + d = l.length → Ev (fun k => keys_Of.l0 k c sh (ofL (l.take i) c sh) l (l.length : Int) (i : Int)) (ofL l c sh)
  | 0, i, h => by
    have hi : i = l.length := by omega
    rw [hi, List.take_length]
    refine Ev.step (f := fun _ => some (ofL l c sh)) (fun k => ?_) (Ev.const rfl)
    simp only [keys_Of.l0]
    rw [if_neg (by omega)]
  | d + 1, i, h => by
    have hil : i < l.length := by omega
    have ih := of_l0 l c sh hl d (i + 1) (by omega)
    have hlen : (ofL (l.take i) c sh).length < 8796093022208 := by
      have h1 := List.length_filter_le (fun x => decide (shardE x sh = 0 ∧ shardN x sh = c)) (l.take i)
      have h2 := List.length_take_le i l
      unfold ofL; omega
    have hs : ofL (l.take (i + 1)) c sh = if shardE l[i] sh = 0 ∧ shardN l[i] sh = c then ofL (l.take i) c sh ++ [l[i]] else ofL (l.take i) c sh := by
      unfold ofL
      rw [List.take_succ_eq_append_getElem hil, List.filter_append, List.filter_cons, List.filter_nil]
      by_cases hp : shardE l[i] sh = 0 ∧ shardN l[i] sh = c
      · rw [if_pos hp, if_pos (decide_eq_true hp)]
      · rw [if_neg hp, if_neg (by rw [decide_eq_true_eq]; exact hp), List.append_nil]
    rw [hs] at ih
    refine Ev.step (fun k => ?_) ih
    simp only [keys_Of.l0]
    rw [if_pos (by omega), if_pos (by omega), if_pos (by omega), rd_at l i hil, w1 i (by omega)]
    show (some (shardN l[i] sh, shardE l[i] sh)).bind _ = _
    rw [Option.bind_some]
    by_cases h1 : shardE l[i] sh = 0
    · by_cases h2 : shardN l[i] sh = c
      · rw [if_pos h1, if_pos h2, if_pos hlen, if_pos ⟨h1, h2⟩]
      · rw [if_pos h1, if_neg h2, if_neg (fun e => h2 e.2)]
    · rw [if_neg h1, if_neg (fun e => h1 e.1)]
theorem of_is (l : List ByteArray) (c sh : Int) (hl : l.length ≤ 2000) : Ev (fun k => keys_Of.f k l c sh) (ofL l c sh) := of_l0 l c sh hl l.length 0 (by omega)
def maskL (l : List ByteArray) (sh : Int) : Int := l.foldl (fun m x => Go.bits .or .i64 m (shl .i64 1 (shardN x sh))) 0
theorem mask_l0 (l : List ByteArray) (sh : Int) (hok : ∀ x ∈ l, okKey x = true) (h1 : 1 ≤ sh) (h4 : sh ≤ 4) (hl : l.length ≤ 2000) : ∀ d i, i + d = l.length → Ev (fun k => keys_Mask.l0 k sh (maskL (l.take i) sh) l (l.length : Int) (i : Int)) (maskL l sh, 0)
  | 0, i, h => by
    have hi : i = l.length := by omega
    rw [hi, List.take_length]
    refine Ev.step (f := fun _ => some (maskL l sh, 0)) (fun k => ?_) (Ev.const rfl)
    simp only [keys_Mask.l0]
    rw [if_neg (by omega)]
  | d + 1, i, h => by
    have hil : i < l.length := by omega
    have ih := mask_l0 l sh hok h1 h4 hl d (i + 1) (by omega)
    have hx := hok _ (List.getElem_mem hil)
    rw [show maskL (l.take (i + 1)) sh = Go.bits .or .i64 (maskL (l.take i) sh) (shl .i64 1 (shardN l[i] sh)) by unfold maskL; rw [List.take_succ_eq_append_getElem hil, List.foldl_append]; rfl] at ih
    refine Ev.step (fun k => ?_) ih
    simp only [keys_Mask.l0]
    rw [if_pos (by omega), if_pos (by omega), if_pos (by omega), rd_at l i hil, w1 i (by omega)]
    show (some (shardN l[i] sh, shardE l[i] sh)).bind _ = _
    rw [Option.bind_some, shardE_ok hx h1 h4, if_pos rfl, if_pos (shardN_range hx h1 h4).1]
theorem mask_is (l : List ByteArray) (sh : Int) (hok : ∀ x ∈ l, okKey x = true) (h1 : 1 ≤ sh) (h4 : sh ≤ 4) (hl : l.length ≤ 2000) : Ev (fun k => keys_Mask.f k l sh) (maskL l sh, 0) := mask_l0 l sh hok h1 h4 hl l.length 0 (by omega)
theorem mask_bit (m : Int) (c : Nat) (hc : c < 4) : ((Go.bits .and .i64 (shr .i64 m (c : Int)) 1) == 1) = tb m c := by
  rw [and_one, tb_div m c (by omega)]
  unfold shr
  rw [Int.toNat_natCast, Nat.min_eq_left (by rw [show IntKind.i64.bits = 64 from rfl]; omega)]
theorem tb_shl (n c : Nat) (hn : n < 4) (hc : c < 4) : tb (shl .i64 1 (n : Int)) c = decide (n = c) := by
  rcases (by omega : n = 0 ∨ n = 1 ∨ n = 2 ∨ n = 3) with rfl | rfl | rfl | rfl <;> rcases (by omega : c = 0 ∨ c = 1 ∨ c = 2 ∨ c = 3) with rfl | rfl | rfl | rfl <;> decide
theorem tb_mask (l : List ByteArray) (sh : Int) (hok : ∀ x ∈ l, okKey x = true) (h1 : 1 ≤ sh) (h4 : sh ≤ 4) (c : Nat) (hc : c < 4) : tb (maskL l sh) c = l.any (fun x => decide (shardN x sh = (c : Int))) := by
  have h : ∀ (l : List ByteArray) (m : Int), (∀ x ∈ l, okKey x = true) → tb (l.foldl (fun m x => Go.bits .or .i64 m (shl .i64 1 (shardN x sh))) m) c = (tb m c || l.any (fun x => decide (shardN x sh = (c : Int)))) := by
    intro l
    induction l with
    | nil => intro m _; simp
    | cons x l ih =>
      intro m hk
      rw [List.foldl_cons, ih _ (fun y hy => hk y (List.mem_cons_of_mem _ hy)), List.any_cons, tb_or, Bool.or_assoc]
      have hr := shardN_range (hk x (by simp)) h1 h4
      obtain ⟨n, hn⟩ : ∃ n : Nat, shardN x sh = n := ⟨(shardN x sh).toNat, by omega⟩
      rw [hn, tb_shl n c (by omega) hc]
      congr 2
      rw [decide_eq_decide]; omega
  unfold maskL
  rw [h l 0 hok]
  have h0 : tb 0 c = false := by
    rcases (by omega : c = 0 ∨ c = 1 ∨ c = 2 ∨ c = 3) with rfl | rfl | rfl | rfl <;> decide
  rw [h0, Bool.false_or]
end Go.Proofs.Ytcoohapohkbnpaa.Strs
