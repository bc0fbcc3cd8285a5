/- The walk of keys.Join: a map counts, what comes first is appended, the library sorts. -/
import Derived.Test.YtcoohapohkbnpaaYStrsJ
import Derived.Test.YtcoohapohkbnpaaAppend
import Derived.Test.YtcoohapohkbnpaaShelf
import Derived.Sort.OwnSorted
import Derived.Maps.Own
import Derived.Maps.OwnOps
import Derived.Maps.Views
import Derived.StringKeys
namespace Go.Proofs.Ytcoohapohkbnpaa.Strs
open Go.RowKit Go.Maps Go.WideMaps Go.Sort Go.Proofs.YtcoohapohkbnpaaW.PrintWords Go.Proofs.YtcoohapohkbnpaaW.PrintLast Go.Proofs.YtcoohapohkbnpaaW.PrintMore Go.Proofs.Ytcoohapohkbnpaa.X
set_option linter.unusedSimpArgs false
set_option linter.unusedVariables false
/-- Lists that may be gone through. -/
def big (l : List ByteArray) : Prop := l.length ≤ 1000 ∧ ∀ x ∈ l, x.size ≤ 2000
theorem keyLaw : Keyed Try.prog 9 := string_keyed Try.underlying9
theorem zeroInt (w : World) : (zeroValue 3).run Try.prog w = .ok (.int .i64 0) w := by kernel_rfl
def klOf (s : ByteArray) : Lit := .string s.data.toList
/-- How often a text has come. -/
def came (ps : List ByteArray) (s : ByteArray) : Nat := ps.countP (fun y => decide (y.data.toList = s.data.toList))
theorem came_snoc (ps : List ByteArray) (x s : ByteArray) : came (ps ++ [x]) s = came ps s + if x.data.toList = s.data.toList then 1 else 0 := by
  unfold came
  rw [List.countP_append, List.countP_singleton]
  simp only [decide_eq_true_eq]
theorem came_le (ps : List ByteArray) (s : ByteArray) : came ps s ≤ ps.length := List.countP_le_length
theorem came_zero (ps : List ByteArray) (s : ByteArray) : came ps s = 0 ↔ s ∉ ps := by
  unfold came
  rw [List.countP_eq_zero]
  constructor
  · intro h hs; exact absurd (decide_eq_true rfl) (h s hs)
  · intro h y hy he; exact h (bytes_ext (of_decide_eq_true he) ▸ hy)
theorem map_block {H : Type} {P : Program} {w w' : World} {k : TypeId} {R : Value → Option (DataW H × List MemPlace)} {b n : Nat} {D : DataW H} (h : w.ownsMap P k R b n D) (e : w'.heap[b]? = w.heap[b]?) : w'.ownsMap P k R b n D := by
  obtain ⟨es, clock, hb, r⟩ := h
  exact ⟨es, clock, e.trans hb, r⟩
theorem own_grown {w w' : World} {B e size n : Nat} {v : Value} {xs : List Value} {b : Nat} (h : w.ownsRow B e size v n xs) (hg : w.grownBy w' (some b)) (hb : b < B) : w'.ownsRow B e size v n xs := by
  refine ⟨h.1, ?_⟩
  rcases h.2 with h0 | ⟨g, cap, cur, hv, hB, hh, rest⟩
  · exact .inl h0
  · refine .inr ⟨g, cap, cur, hv, hB, ?_, rest⟩
    rw [hg.block g (Array.getElem?_eq_some_iff.1 hh).1 (by simp; omega)]
    exact hh

theorem run_index_sl {P : Program} (T e e2 : TypeId) (n : Nat) (k : IntKind) (hT : P.underlying T = some (.array n e)) (he : P.underlying e = some (.slice e2)) (hs : (P.info? e).map (·.size) = some 1)
    (w : World) (cs : Array Value) (i : Int) (h0 : 0 ≤ i) (h1 : i < n) (hc : cs.size = n) :
    (Instr.index T (.agg cs) (.int k i)).run P w = .ok (cs.getD i.toNat undef) w := by
  obtain ⟨ti, hi, hs1⟩ := Option.map_eq_some_iff.1 hs
  have hi2 : i.toNat < cs.size := by omega
  have hagg : (isAgg e).run P w = .ok false w := by
    unfold isAgg
    rw [Sem.run_bind, run_underlying he w]
    simp
  simp [Instr.index, asIntOf, Sem.run_bind, run_underlying hT, h0, h1, sizeOf, typeInfo, hi, hs1, part, hagg, hi2]
theorem c_cells {w : World} {A : Option Addr} {l : List ByteArray} (h : Kd.C Kd.string w A l.length l) : ∀ j, j < l.length → ∃ ad : Addr, A = some ad ∧ w.cell? (ad.add j) = some (.string (l.getD j ByteArray.empty)) ∧ ad.block < w.heap.size ∧ (ad.add j).block = ad.block := by
  intro j hj
  obtain ⟨ad, rfl, hc⟩ := h.2.2 (by omega)
  obtain ⟨c, hl, hk, hcell⟩ := hc j _ (List.getElem?_eq_getElem hj)
  have e : c = [.string (l.getD j ByteArray.empty)] := by
    have : c = [Value.string l[j]] := hk
    rw [this]; simp [List.getD_eq_getElem?_getD, hj]
  subst e
  have h3 := hcell 0 _ rfl
  rw [show j * Kd.string.sz + 0 = j by simp [Kd.string, Kd.scalar]] at h3
  have hb : (ad.add j).block = ad.block := by unfold Addr.add; split <;> rfl
  exact ⟨ad, rfl, h3, by rw [← hb]; exact World.block_lt_of_cell? w _ h3, hb⟩

structure JoinState (w wr : World) (v : Value) (out ps : List ByteArray) (D : DataW Nat) : Prop where
  own : wr.ownsRow (w.heap.size + 1) 9 1 v out.length (out.map Value.string)
  map : wr.ownsMap Try.prog 9 (plainElem Try.prog 3) w.heap.size ps.length D
  atk : ∀ s : ByteArray, D.atKey (klOf s) (.lit (.int .i64 0)) = .lit (.int .i64 (came ps s))
  isMap : IsMap D
  nodup : out.Nodup
  mem : ∀ x, x ∈ out ↔ x ∈ ps
  len : out.length ≤ ps.length
  below : Below w.heap.size w wr
  size : w.heap.size + 1 ≤ wr.heap.size

theorem state_atk {D : DataW Nat} {ps : List ByteArray} (x : ByteArray) (c : Int) (hc : c = ((came ps x : Nat) : Int) + 1) (hD : IsMap D) (h : ∀ s : ByteArray, D.atKey (klOf s) (.lit (.int .i64 0)) = .lit (.int .i64 (came ps s))) (s : ByteArray) :
    (D.put (.string x.data.toList) (.lit (.int .i64 c))).atKey (klOf s) (.lit (.int .i64 0)) = .lit (.int .i64 (came (ps ++ [x]) s)) := by
  by_cases hx : x.data.toList = s.data.toList
  · have e : klOf s = .string x.data.toList := by unfold klOf; rw [hx]
    rw [e, atKey_put_same hD (by trivial), came_snoc, if_pos hx, hc]
    have : came ps x = came ps s := by unfold came; rw [hx]
    rw [this]; rfl
  · rw [atKey_put_other (by unfold klOf; intro e; injection e with e; exact hx e.symm), h s, came_snoc, if_neg hx, Nat.add_zero]
theorem JoinState.seen {w wr w1 : World} {v : Value} {out ps : List ByteArray} {D : DataW Nat} (hS : JoinState w wr v out ps D) (x : ByteArray) (hin : x ∈ ps) (c : Int) (hc : c = ((came ps x : Nat) : Int) + 1)
    (hm : w1.ownsMap Try.prog 9 (plainElem Try.prog 3) w.heap.size (ps.length + 1) (D.put (.string x.data.toList) (.lit (.int .i64 c)))) (hg : wr.grownBy w1 (some w.heap.size)) :
    JoinState w w1 v out (ps ++ [x]) (D.put (.string x.data.toList) (.lit (.int .i64 c))) where
  own := own_grown hS.own hg (Nat.lt_succ_self _)
  map := by rw [List.length_append]; exact hm
  atk := state_atk x c hc hS.isMap hS.atk
  isMap := hS.isMap.put _ _
  nodup := hS.nodup
  mem := fun y => by
    rw [List.mem_append, List.mem_singleton, hS.mem]
    constructor
    · exact .inl
    · rintro (h | rfl)
      · exact h
      · exact hin
  len := by rw [List.length_append]; have := hS.len; simp only [List.length_singleton]; omega
  below := hS.below.grown hg (by have := hS.size; omega) (fun k hk => by cases hk; exact Nat.le_refl _)
  size := Nat.le_trans hS.size hg.size
theorem JoinState.fresh {w wr w1 w2 : World} {v v1 : Value} {out ps : List ByteArray} {D : DataW Nat} (hS : JoinState w wr v out ps D) (x : ByteArray) (hin : x ∉ ps) (c : Int) (hc : c = ((came ps x : Nat) : Int) + 1)
    (hm : w1.ownsMap Try.prog 9 (plainElem Try.prog 3) w.heap.size (ps.length + 1) (D.put (.string x.data.toList) (.lit (.int .i64 c)))) (hg : wr.grownBy w1 (some w.heap.size))
    (ho : w2.ownsRow (w.heap.size + 1) 9 1 v1 (out.length + 1) (out.map Value.string ++ [.string x])) (hb : Below (w.heap.size + 1) w1 w2) :
    JoinState w w2 v1 (out ++ [x]) (ps ++ [x]) (D.put (.string x.data.toList) (.lit (.int .i64 c))) where
  own := by rw [List.length_append, List.map_append]; exact ho
  map := by rw [List.length_append]; exact map_block hm (hb.block _ (Nat.lt_succ_self _))
  atk := state_atk x c hc hS.isMap hS.atk
  isMap := hS.isMap.put _ _
  nodup := by
    rw [List.nodup_append]
    refine ⟨hS.nodup, by simp, fun a ha b hb2 => ?_⟩
    rw [List.mem_singleton] at hb2
    subst hb2
    intro e; subst e; exact hin ((hS.mem _).1 ha)
  mem := fun y => by rw [List.mem_append, List.mem_append, hS.mem]
  len := by rw [List.length_append, List.length_append]; have := hS.len; simp only [List.length_singleton]; omega
  below := (hS.below.grown hg (by have := hS.size; omega) (fun k hk => by cases hk; exact Nat.le_refl _)).trans (hb.mono (by omega))
  size := Nat.le_trans (Nat.le_trans hS.size hg.size) hb.size

/-- A list of texts, sorted. -/
def srt (l : List ByteArray) : List ByteArray := ((l.map (fun x => x.data.toList)).mergeSort (fun x y => decide (x ≤ y))).map (fun b => ⟨b.toArray⟩)
theorem enc_map (l : List ByteArray) : l.map Value.string = (l.map (fun x => x.data.toList)).map encStr := by
  rw [List.map_map]
  apply List.map_congr_left
  intro x _
  simp [encStr]
theorem enc_map' (l : List (List UInt8)) : (l.map (fun b => (⟨b.toArray⟩ : ByteArray))).map Value.string = l.map encStr := by
  rw [List.map_map]
  apply List.map_congr_left
  intro x _
  simp [encStr]
theorem srt_length (l : List ByteArray) : (srt l).length = l.length := by simp [srt]
theorem own_lower {w : World} {B B' e size n : Nat} {v : Value} {xs : List Value} (h : w.ownsRow B e size v n xs) (hB : B' ≤ B) : w.ownsRow B' e size v n xs := own_weaken h hB
theorem srt_joined {l ps : List ByteArray} (hn : l.Nodup) (hm : ∀ x, x ∈ l ↔ x ∈ ps) : (srt l).Pairwise blt ∧ ∀ x, x ∈ srt l ↔ x ∈ ps := by
  have hmem : ∀ x, x ∈ srt l ↔ x ∈ l := by
    intro x
    unfold srt
    rw [List.mem_map]
    constructor
    · rintro ⟨b, hb, rfl⟩
      rw [List.mem_mergeSort, List.mem_map] at hb
      obtain ⟨y, hy, rfl⟩ := hb
      exact hy
    · intro hx
      exact ⟨x.data.toList, by rw [List.mem_mergeSort, List.mem_map]; exact ⟨x, hx, rfl⟩, by simp⟩
  refine ⟨?_, fun x => (hmem x).trans (hm x)⟩
  have hp : ((l.map (fun x => x.data.toList)).mergeSort (fun x y => decide (x ≤ y))).Pairwise (fun x y => decide (x ≤ y) = true) :=
    List.pairwise_mergeSort (fun a b c h1 h2 => by simp only [decide_eq_true_eq] at *; exact Std.le_trans h1 h2) (fun a b => by simp only [Bool.or_eq_true, decide_eq_true_eq]; exact Std.le_total) _
  have hnd : ((l.map (fun x => x.data.toList)).mergeSort (fun x y => decide (x ≤ y))).Nodup := by
    rw [(List.mergeSort_perm _ _).nodup_iff]
    rw [List.nodup_iff_pairwise_ne, List.pairwise_map]
    exact (List.nodup_iff_pairwise_ne.1 hn).imp (fun hne e => hne (bytes_ext e))
  unfold srt
  rw [List.pairwise_map]
  have h2 := hp.and (List.nodup_iff_pairwise_ne.1 hnd)
  refine h2.imp ?_
  rintro a b ⟨hle, hne⟩
  rw [decide_eq_true_eq] at hle
  show (⟨a.toArray⟩ : ByteArray).data.toList < (⟨b.toArray⟩ : ByteArray).data.toList
  rcases Std.lt_trichotomy a b with h1 | h1 | h1
  · exact h1
  · exact absurd h1 hne
  · exact absurd hle (by rw [List.not_le]; exact h1)
theorem sort_any {B : Nat} (v : Value) (out : List ByteArray) (W : World) (h : W.ownsRow B 9 1 v out.length (out.map Value.string)) (hl : out.length ≤ 4000) :
    Calls Try.prog 20 #[v] W fun e w' => e = .returned (.tuple #[]) ∧ w'.ownsRow B 9 1 v out.length ((srt out).map Value.string) ∧ W.grownBy w' v.ownBlock := by
  rcases h.2 with ⟨rfl, hn⟩ | ⟨g, cap, cur, rfl, hbase, hb, h1, h2, h3, h4⟩
  · refine (Try.slices_Sort_string_none none 0 W).mono ?_
    rintro e w' ⟨rfl, rfl⟩
    have h0 : out = [] := by simpa using hn
    subst h0
    exact ⟨rfl, by simpa [srt] using h, World.grownBy.refl _ _⟩
  · have hc : (out.map (fun x => x.data.toList)).length = out.length := by simp
    have e4 : cur.toList.take (out.map (fun x => x.data.toList)).length = (out.map (fun x => x.data.toList)).map encStr := by rw [hc, ← enc_map]; simpa using h4
    have H := Try.slices_Sort_string g 0 cap (out.map (fun x => x.data.toList)) W (holds_of_block hb e4) (Array.getElem?_eq_some_iff.1 hb).1 (by rw [hc]; omega)
    rw [hc] at H
    refine H.mono ?_
    rintro e w' ⟨rfl, n, os, rfl⟩
    refine ⟨rfl, ?_, ?_⟩
    · have h5 := ownsRow_sorted (w := W) (n := n) (os := os) (ss := out.map (fun x => x.data.toList)) (ts := (out.map (fun x => x.data.toList)).mergeSort fun x y => decide (x ≤ y)) (by simp) hbase hb (by rw [hc]; exact h1) h2 (by simpa using h3)
      rw [hc] at h5
      unfold srt
      rw [enc_map']
      exact h5
    · exact grownBy_sorted _

set_option maxRecDepth 1000000 in
set_option maxHeartbeats 8000000 in
theorem join_any (A0 A1 : Option Addr) (c0 c1 : Nat) (l0 l1 : List ByteArray) (w : World) (h0 : Kd.C Kd.string w A0 l0.length l0) (h1 : Kd.C Kd.string w A1 l1.length l1) (f0 : big l0) (f1 : big l1) :
    Calls Try.prog 8 #[.slice A0 l0.length c0, .slice A1 l1.length c1] w fun e w' => ∃ v r, e = .returned v ∧ w'.ownsRow w.heap.size 9 1 v r.length (r.map Value.string) ∧ Joined l0 l1 r ∧ Below w.heap.size w w' := by
  have hi : (Try.prog.info? 9).map (fun i => (i.zero, i.size, i.bytes)) = some (some (.string ByteArray.empty), 1, 16) := by kernel_rfl
  have HI := Lib.hid hi
  clear hi
  have hmm := @run_makeMap Try.prog
  have hidx : ∀ (w : World) (x y : Value) (i : Int), 0 ≤ i → i < 2 → (Instr.index 38 (.agg #[x, y]) (.int .i64 i)).run Try.prog w = .ok ((#[x, y] : Array Value).getD i.toNat undef) w := fun w x y i h0 h1 => run_index_sl 38 22 9 2 .i64 Try.underlying38 Try.underlying22 (by kernel_rfl) w _ i h0 h1 rfl
  have K0 := Lib.hid (c_cells h0)
  have K1 := Lib.hid (c_cells h1)
  have n0 := f0.1
  have n1 := f1.1
  have F0 := Lib.hid f0.2
  have F1 := Lib.hid f1.2
  clear h0 h1 f0 f1
  go_enter Try.func8, Try.ntmps8
  go_wp2
  refine wp_loop_rounds 3 ?_
  rw [rounds_succ]
  go_wp2
  go_loopw [6, 20] (fun v i wr => ∃ (j : Nat) (out : List ByteArray) (D : DataW Nat), j ≤ l0.length ∧ i = .int .i64 j ∧ Hid (JoinState w wr v out (l0.take (j)) D)) (fun _ i _ => l0.length - (intOf i).toNat)
  case atStart => exact ⟨0, [], .map [], by omega, rfl, Lib.hid ⟨own_none _ _ _ _, World.ownsMap_made w _ _ _, fun s => by simp [came, DataW.atKey], isMap_empty, by simp, by simp, by simp, (Below.refl _ w).alloc (Nat.le_refl _) _, by simp⟩⟩
  case round =>
    obtain ⟨j, out, D, hj, rfl, hS⟩ := hrel
    by_cases hlt : j < l0.length
    · obtain ⟨ad, rfl, hc, hk, ha⟩ := K0.out j hlt
      have hcell : wr.cell? (ad.add j) = some (.string (l0.getD j ByteArray.empty)) := by rw [hS.out.below.cell (p := ad.add j) (by rw [ha]; exact hk), hc]
      have hel : l0.getD j ByteArray.empty = l0[j] := by simp [List.getD_eq_getElem?_getD, hlt]
      have hmem : l0.getD j ByteArray.empty ∈ l0 := by rw [hel]; exact List.getElem_mem hlt
      have htake : (l0.take (j + 1)) = (l0.take (j)) ++ [l0.getD j ByteArray.empty] := by rw [hel, List.take_succ_eq_append_getElem hlt]
      have hxs := F0.out _ hmem
      clear hc hk ha hmem hel
      generalize l0.getD j ByteArray.empty = x at hcell htake hxs
      have HT := Lib.hid htake
      have hlen : x.size ≤ maxLen := by unfold maxLen; omega
      have hpl : (l0.take (j)).length = j := by rw [List.length_take]; omega
      have hsz := hS.out.size
      have hcm := came_le (l0.take (j)) x
      clear htake
      have hlo := hS.out.len
      by_cases hin : x ∈ (l0.take (j))
      · have h0 : came (l0.take (j)) x ≠ 0 := fun e => (came_zero _ _).1 e hin
        have h1 : (((came (l0.take (j)) x : Nat) : Int) + 1 == 1) = false := by simp; omega
        go_wp2_with (first | (at_lookup; refine wpList_lookup_own_int _ rfl _ _ 37 rfl 9 3 .i64 keyLaw Try.underlying37 Try.underlying3 (zeroInt _) w.heap.size _ _ rfl hS.out.map _ _ rfl (keyOf_string_mk Try.underlying9 hlen) ?_; intro c hat hwc; have hcE : c = ((came (l0.take (j)) x : Nat) : Int) := (by have h2 := hS.out.atk x; rw [show klOf x = Lit.string x.data.toList from rfl, hat] at h2; injection h2 with h2; injection h2); subst hcE; clear hat hwc) | (at_mapUpdate; refine wpList_mapUpdate_own _ rfl _ _ _ 37 rfl 9 3 keyLaw Try.underlying37 _ w.heap.size _ _ rfl hS.out.map (by unfold maxLen; omega) _ _ _ rfl rfl (keyOf_string_mk Try.underlying9 hlen) _ [] (plainElem_int Try.underlying3 (WalkArith.wf_i64 (by omega))) ?_; intro w1 hown1 hgrow1; have HM1 := Lib.hid hown1; have HG1 := Lib.hid hgrow1; have hs1 := hgrow1.size; have HO1 := Lib.hid (own_grown hS.out.own hgrow1 (Nat.lt_succ_self _)); clear hown1 hgrow1) | (at_lookup; refine wpList_lookup_own_int _ rfl _ _ 37 rfl 9 3 .i64 keyLaw Try.underlying37 Try.underlying3 (zeroInt _) w.heap.size _ _ rfl HM1.out _ _ rfl (keyOf_string_mk Try.underlying9 hlen) ?_; intro c2 hat hwc; have hcE2 : c2 = ((came (l0.take (j)) x : Nat) : Int) + 1 := (by rw [atKey_put_same hS.out.isMap (by trivial)] at hat; injection hat with hat; injection hat with _ hat; exact hat.symm); subst hcE2; clear hat hwc))
        go_roundw
        case rel => exact ⟨j + 1, _, _, by omega, by go_num, Lib.hid (by rw [HT.out]; exact hS.out.seen x hin _ rfl HM1.out HG1.out)⟩
        case measure => simp [intOf]; omega
      · have h0 : came (l0.take (j)) x = 0 := (came_zero _ _).2 hin
        have h1 : (((came (l0.take (j)) x : Nat) : Int) + 1 == 1) = true := by simp; omega
        go_wp2_with (first | (at_lookup; refine wpList_lookup_own_int _ rfl _ _ 37 rfl 9 3 .i64 keyLaw Try.underlying37 Try.underlying3 (zeroInt _) w.heap.size _ _ rfl hS.out.map _ _ rfl (keyOf_string_mk Try.underlying9 hlen) ?_; intro c hat hwc; have hcE : c = ((came (l0.take (j)) x : Nat) : Int) := (by have h2 := hS.out.atk x; rw [show klOf x = Lit.string x.data.toList from rfl, hat] at h2; injection h2 with h2; injection h2); subst hcE; clear hat hwc) | (at_mapUpdate; refine wpList_mapUpdate_own _ rfl _ _ _ 37 rfl 9 3 keyLaw Try.underlying37 _ w.heap.size _ _ rfl hS.out.map (by unfold maxLen; omega) _ _ _ rfl rfl (keyOf_string_mk Try.underlying9 hlen) _ [] (plainElem_int Try.underlying3 (WalkArith.wf_i64 (by omega))) ?_; intro w1 hown1 hgrow1; have HM1 := Lib.hid hown1; have HG1 := Lib.hid hgrow1; have hs1 := hgrow1.size; have HO1 := Lib.hid (own_grown hS.out.own hgrow1 (Nat.lt_succ_self _)); clear hown1 hgrow1) | (at_lookup; refine wpList_lookup_own_int _ rfl _ _ 37 rfl 9 3 .i64 keyLaw Try.underlying37 Try.underlying3 (zeroInt _) w.heap.size _ _ rfl HM1.out _ _ rfl (keyOf_string_mk Try.underlying9 hlen) ?_; intro c2 hat hwc; have hcE2 : c2 = 1 := (by rw [atKey_put_same hS.out.isMap (by trivial)] at hat; injection hat with hat; injection hat with _ hat; exact hat.symm); subst hcE2; clear hat hwc) | (at_builtin; refine append_one (w0 := w1) (w.heap.size + 1) rfl (.tmp 32) (.tmp 34) 22 9 (.string ByteArray.empty) 1 16 rfl Try.underlying22 HI.out rfl (by decide) (by decide) _ _ _ [.string x] rfl rfl rfl (by simp [Value.oneCell']) HO1.out (Below.refl _ _) (Nat.le_trans hsz hs1) (by omega) ?_; intro v1 w2 hown3 hb3 hs3; have HO3 := Lib.hid hown3; have HB3 := Lib.hid hb3; clear hown3 hb3))
        go_roundw
        case rel => exact ⟨j + 1, _, _, by omega, by go_num, Lib.hid (by rw [HT.out]; exact hS.out.fresh x hin 1 (by rw [h0]; rfl) HM1.out HG1.out HO3.out HB3.out)⟩
        case measure => simp [intOf]; omega
    · obtain rfl : j = l0.length := by omega
      have HS := hS
      clear hS hlt
      obtain ⟨wo, rfl⟩ : ∃ wo : World, wo = wr := ⟨_, rfl⟩
      go_wp2
      rw [rounds_succ]
      go_wp2
      go_loopw [6, 20] (fun v i wr => ∃ (j : Nat) (out : List ByteArray) (D : DataW Nat), j ≤ l1.length ∧ i = .int .i64 j ∧ Hid (JoinState w wr v out ((l0 ++ l1.take (j))) D)) (fun _ i _ => l1.length - (intOf i).toNat)
      case atStart => exact ⟨0, out, D, by omega, rfl, Lib.hid (by have h := HS.out; rw [List.take_length] at h; rw [List.take_zero, List.append_nil]; exact h)⟩
      case round =>
        obtain ⟨j, out, D, hj, rfl, hS⟩ := hrel
        by_cases hlt : j < l1.length
        · obtain ⟨ad, rfl, hc, hk, ha⟩ := K1.out j hlt
          have hcell : wr.cell? (ad.add j) = some (.string (l1.getD j ByteArray.empty)) := by rw [hS.out.below.cell (p := ad.add j) (by rw [ha]; exact hk), hc]
          have hel : l1.getD j ByteArray.empty = l1[j] := by simp [List.getD_eq_getElem?_getD, hlt]
          have hmem : l1.getD j ByteArray.empty ∈ l1 := by rw [hel]; exact List.getElem_mem hlt
          have htake : ((l0 ++ l1.take (j + 1))) = ((l0 ++ l1.take (j))) ++ [l1.getD j ByteArray.empty] := by rw [hel, List.take_succ_eq_append_getElem hlt]; rw [List.append_assoc]
          have hxs := F1.out _ hmem
          clear hc hk ha hmem hel
          generalize l1.getD j ByteArray.empty = x at hcell htake hxs
          have HT := Lib.hid htake
          have hlen : x.size ≤ maxLen := by unfold maxLen; omega
          have hpl : ((l0 ++ l1.take (j))).length = l0.length + j := by rw [List.length_append]; rw [List.length_take]; omega
          have hsz := hS.out.size
          have hcm := came_le ((l0 ++ l1.take (j))) x
          clear htake
          have hlo := hS.out.len
          by_cases hin : x ∈ ((l0 ++ l1.take (j)))
          · have h0 : came ((l0 ++ l1.take (j))) x ≠ 0 := fun e => (came_zero _ _).1 e hin
            have h1 : (((came ((l0 ++ l1.take (j))) x : Nat) : Int) + 1 == 1) = false := by simp; omega
            go_wp2_with (first | (at_lookup; refine wpList_lookup_own_int _ rfl _ _ 37 rfl 9 3 .i64 keyLaw Try.underlying37 Try.underlying3 (zeroInt _) w.heap.size _ _ rfl hS.out.map _ _ rfl (keyOf_string_mk Try.underlying9 hlen) ?_; intro c hat hwc; have hcE : c = ((came ((l0 ++ l1.take (j))) x : Nat) : Int) := (by have h2 := hS.out.atk x; rw [show klOf x = Lit.string x.data.toList from rfl, hat] at h2; injection h2 with h2; injection h2); subst hcE; clear hat hwc) | (at_mapUpdate; refine wpList_mapUpdate_own _ rfl _ _ _ 37 rfl 9 3 keyLaw Try.underlying37 _ w.heap.size _ _ rfl hS.out.map (by unfold maxLen; omega) _ _ _ rfl rfl (keyOf_string_mk Try.underlying9 hlen) _ [] (plainElem_int Try.underlying3 (WalkArith.wf_i64 (by omega))) ?_; intro w1 hown1 hgrow1; have HM1 := Lib.hid hown1; have HG1 := Lib.hid hgrow1; have hs1 := hgrow1.size; have HO1 := Lib.hid (own_grown hS.out.own hgrow1 (Nat.lt_succ_self _)); clear hown1 hgrow1) | (at_lookup; refine wpList_lookup_own_int _ rfl _ _ 37 rfl 9 3 .i64 keyLaw Try.underlying37 Try.underlying3 (zeroInt _) w.heap.size _ _ rfl HM1.out _ _ rfl (keyOf_string_mk Try.underlying9 hlen) ?_; intro c2 hat hwc; have hcE2 : c2 = ((came ((l0 ++ l1.take (j))) x : Nat) : Int) + 1 := (by rw [atKey_put_same hS.out.isMap (by trivial)] at hat; injection hat with hat; injection hat with _ hat; exact hat.symm); subst hcE2; clear hat hwc))
            go_roundw
            case rel => exact ⟨j + 1, _, _, by omega, by go_num, Lib.hid (by rw [HT.out]; exact hS.out.seen x hin _ rfl HM1.out HG1.out)⟩
            case measure => simp [intOf]; omega
          · have h0 : came ((l0 ++ l1.take (j))) x = 0 := (came_zero _ _).2 hin
            have h1 : (((came ((l0 ++ l1.take (j))) x : Nat) : Int) + 1 == 1) = true := by simp; omega
            go_wp2_with (first | (at_lookup; refine wpList_lookup_own_int _ rfl _ _ 37 rfl 9 3 .i64 keyLaw Try.underlying37 Try.underlying3 (zeroInt _) w.heap.size _ _ rfl hS.out.map _ _ rfl (keyOf_string_mk Try.underlying9 hlen) ?_; intro c hat hwc; have hcE : c = ((came ((l0 ++ l1.take (j))) x : Nat) : Int) := (by have h2 := hS.out.atk x; rw [show klOf x = Lit.string x.data.toList from rfl, hat] at h2; injection h2 with h2; injection h2); subst hcE; clear hat hwc) | (at_mapUpdate; refine wpList_mapUpdate_own _ rfl _ _ _ 37 rfl 9 3 keyLaw Try.underlying37 _ w.heap.size _ _ rfl hS.out.map (by unfold maxLen; omega) _ _ _ rfl rfl (keyOf_string_mk Try.underlying9 hlen) _ [] (plainElem_int Try.underlying3 (WalkArith.wf_i64 (by omega))) ?_; intro w1 hown1 hgrow1; have HM1 := Lib.hid hown1; have HG1 := Lib.hid hgrow1; have hs1 := hgrow1.size; have HO1 := Lib.hid (own_grown hS.out.own hgrow1 (Nat.lt_succ_self _)); clear hown1 hgrow1) | (at_lookup; refine wpList_lookup_own_int _ rfl _ _ 37 rfl 9 3 .i64 keyLaw Try.underlying37 Try.underlying3 (zeroInt _) w.heap.size _ _ rfl HM1.out _ _ rfl (keyOf_string_mk Try.underlying9 hlen) ?_; intro c2 hat hwc; have hcE2 : c2 = 1 := (by rw [atKey_put_same hS.out.isMap (by trivial)] at hat; injection hat with hat; injection hat with _ hat; exact hat.symm); subst hcE2; clear hat hwc) | (at_builtin; refine append_one (w0 := w1) (w.heap.size + 1) rfl (.tmp 32) (.tmp 34) 22 9 (.string ByteArray.empty) 1 16 rfl Try.underlying22 HI.out rfl (by decide) (by decide) _ _ _ [.string x] rfl rfl rfl (by simp [Value.oneCell']) HO1.out (Below.refl _ _) (Nat.le_trans hsz hs1) (by omega) ?_; intro v1 w2 hown3 hb3 hs3; have HO3 := Lib.hid hown3; have HB3 := Lib.hid hb3; clear hown3 hb3))
            go_roundw
            case rel => exact ⟨j + 1, _, _, by omega, by go_num, Lib.hid (by rw [HT.out]; exact hS.out.fresh x hin 1 (by rw [h0]; rfl) HM1.out HG1.out HO3.out HB3.out)⟩
            case measure => simp [intOf]; omega
        · obtain rfl : j = l1.length := by omega
          have HE := Lib.hid (by have h := hS.out; rw [List.take_length] at h; exact h : JoinState w wr _ out (l0 ++ l1) D)
          have hoL : out.length ≤ 4000 := by have h := HE.out.len; rw [List.length_append] at h; omega
          clear hS hlt
          go_wp2
          rw [rounds_succ]
          go_wp2_with ((go_at_call 20); refine (sort_any _ out wr HE.out.own hoL).mono ?_; rintro e w3 ⟨rfl, hs3, hg3⟩; have HSR := Lib.hid hs3; have HG3 := Lib.hid hg3; clear hs3 hg3)
          go_ret
          exact ⟨_, srt out, rfl, by rw [srt_length]; exact own_lower HSR.out (Nat.le_succ _), ⟨(srt_joined HE.out.nodup HE.out.mem).1, fun x => by rw [← List.mem_append]; exact (srt_joined HE.out.nodup HE.out.mem).2 x⟩, HE.out.below.grown HG3.out (by have := HE.out.size; omega) (fun k hk => by have := own_block_le HE.out.own k hk; omega)⟩
def dd : List ByteArray → List ByteArray → List ByteArray
  | acc, [] => acc
  | acc, x :: l => if inB acc x = true then dd acc l else dd (acc ++ [x]) l
theorem dd_nodup : ∀ (l acc : List ByteArray), acc.Nodup → (dd acc l).Nodup
  | [], acc, h => h
  | x :: l, acc, h => by
    unfold dd
    split
    · exact dd_nodup l acc h
    · rename_i hx0
      have hx : x ∉ acc := fun e => hx0 ((inB_iff _ _).2 e)
      refine dd_nodup l _ ?_
      rw [List.nodup_append]
      exact ⟨h, by simp, fun a ha b hb => by rw [List.mem_singleton] at hb; subst hb; intro e; subst e; exact hx ha⟩
theorem dd_mem : ∀ (l acc : List ByteArray) (y : ByteArray), y ∈ dd acc l ↔ y ∈ acc ∨ y ∈ l
  | [], acc, y => by simp [dd]
  | x :: l, acc, y => by
    unfold dd
    split
    · rename_i hx0
      have hx := (inB_iff _ _).1 hx0
      rw [dd_mem l acc y, List.mem_cons]
      constructor
      · rintro (h | h)
        · exact .inl h
        · exact .inr (.inr h)
      · rintro (h | rfl | h)
        · exact .inl h
        · exact .inl hx
        · exact .inr h
    · rw [dd_mem l _ y, List.mem_append, List.mem_singleton, List.mem_cons]
      constructor
      · rintro ((h | h) | h)
        · exact .inl h
        · exact .inr (.inl h)
        · exact .inr (.inr h)
      · rintro (h | h | h)
        · exact .inl (.inl h)
        · exact .inl (.inr h)
        · exact .inr h
/-- What keys.Join gives. -/
def joinB (l0 l1 : List ByteArray) : List ByteArray := srt (dd [] (l0 ++ l1))
theorem joinB_joined (l0 l1 : List ByteArray) : Joined l0 l1 (joinB l0 l1) := by
  have h := srt_joined (ps := l0 ++ l1) (dd_nodup (l0 ++ l1) [] List.nodup_nil) (fun x => by rw [dd_mem]; simp)
  exact ⟨h.1, fun x => by rw [← List.mem_append]; exact h.2 x⟩
instance (l : List ByteArray) : Decidable (big l) := by unfold big; exact inferInstance
end Go.Proofs.Ytcoohapohkbnpaa.Strs
namespace Go.Proofs.Ytcoohapohkbnpaa.X
open Go.RowKit Go.Proofs.Ytcoohapohkbnpaa.Strs Go.Proofs.YtcoohapohkbnpaaW.PrintWords Go.Proofs.YtcoohapohkbnpaaW.PrintLast Go.Proofs.YtcoohapohkbnpaaW.PrintMore
def keys_Join.f (l0 : List ByteArray) (l1 : List ByteArray) : Option (List ByteArray) := if big l0 ∧ big l1 then some (joinB l0 l1) else none
theorem keys_Join.calls (A0 : Option Addr) (c0 : Nat) (l0 : List ByteArray) (A1 : Option Addr) (c1 : Nat) (l1 : List ByteArray) (r : List ByteArray) (w : World) (hr0 : Kd.C Kd.string w A0 l0.length l0) (hc0 : l0.length ≤ c0) (hr1 : Kd.C Kd.string w A1 l1.length l1) (hc1 : l1.length ≤ c1) (h : keys_Join.f l0 l1 = some r) :
    Calls Try.prog 8 #[.slice A0 l0.length c0, .slice A1 l1.length c1] w fun e w' => ∃ v0_ : Value, e = .returned (v0_) ∧ Kd.R Kd.string 9 w' w.heap.size (fun _ => True) v0_ r ∧ Below w.heap.size w w' := by
  unfold keys_Join.f at h
  by_cases hb : big l0 ∧ big l1
  · rw [if_pos hb] at h
    obtain rfl := Option.some.inj h
    refine (join_any A0 A1 c0 c1 l0 l1 w hr0 hr1 hb.1 hb.2).mono ?_
    rintro e w' ⟨v, r, rfl, ho, hj, hB⟩
    obtain rfl := hj.unique (joinB_joined l0 l1)
    exact ⟨v, rfl, Kd.R_of_own ho (fun _ _ => trivial), hB⟩
  · rw [if_neg hb] at h; cases h
end Go.Proofs.Ytcoohapohkbnpaa.X
