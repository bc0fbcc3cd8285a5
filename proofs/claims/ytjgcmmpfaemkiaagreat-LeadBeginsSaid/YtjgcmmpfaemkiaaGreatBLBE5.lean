/- What the claim LBE leans on: texts joined by bundle.py, a program of ours; the words cut down to what is used. -/
import Derived.Test.YtjgcmmpfaemkiaaGreatBLBE4
import Derived.Test.YtjgcmmpfaemkiaaGreatProg
import Derived.Shelf.Small.Bits
import Derived.Shelf.Strconv.Itoa0
import Derived.Shelf.Sort.Plain
import Derived.Shelf.Slices.Turned
import Derived.Shelf.Slices.In.SortNone
import Derived.Sort.OwnSorted
import Derived.Maps.Own
import Derived.Maps.OwnOps
import Derived.Maps.Views
import Derived.StringKeys
import Derived.KernelRfl
section
namespace Go.Proofs
open Go.Shelf
def Tryz.lays190_ren : Go.Shelf.Ren := ⟨fun | 190 => 143 | 125 => 145 | 258 => 144 | 128 => 155 | 129 => 156 | 302 => 146 | 303 => 147 | 304 => 148 | 305 => 149 | 306 => 150 | 307 => 151 | 308 => 152 | 309 => 153 | 310 => 154 | 333 => 157 | 329 => 158 | 330 => 159 | 334 => 160 | 335 => 161 | 336 => 162 | 344 => 163 | n => n, fun | 31 => 131 | 9 => 9 | 3 => 3 | 46 => 159 | 0 => 0 | 51 => 169 | 53 => 109 | 4 => 4 | 183 => 162 | 182 => 161 | 131 => 166 | 5 => 5 | 218 => 171 | 222 => 175 | 228 => 177 | 229 => 178 | n => n, fun | n => n⟩
theorem Tryz.lays190 : Go.Proofs.Lays.n190 Tryz.prog Tryz.lays190_ren := {
  mixed := by kernel_rfl
  f125 := Tryz.func145.trans (congrArg some (by kernel_rfl))
  f128 := Tryz.func155.trans (congrArg some (by kernel_rfl))
  f129 := Tryz.func156.trans (congrArg some (by kernel_rfl))
  f190 := Tryz.func143.trans (congrArg some (by kernel_rfl))
  f258 := Tryz.func144.trans (congrArg some (by kernel_rfl))
  f302 := Tryz.func146.trans (congrArg some (by kernel_rfl))
  f303 := Tryz.func147.trans (congrArg some (by kernel_rfl))
  f304 := Tryz.func148.trans (congrArg some (by kernel_rfl))
  f305 := Tryz.func149.trans (congrArg some (by kernel_rfl))
  f306 := Tryz.func150.trans (congrArg some (by kernel_rfl))
  f307 := Tryz.func151.trans (congrArg some (by kernel_rfl))
  f308 := Tryz.func152.trans (congrArg some (by kernel_rfl))
  f309 := Tryz.func153.trans (congrArg some (by kernel_rfl))
  f310 := Tryz.func154.trans (congrArg some (by kernel_rfl))
  f329 := Tryz.func158.trans (congrArg some (by kernel_rfl))
  f330 := Tryz.func159.trans (congrArg some (by kernel_rfl))
  f333 := Tryz.func157.trans (congrArg some (by kernel_rfl))
  f334 := Tryz.func160.trans (congrArg some (by kernel_rfl))
  f335 := Tryz.func161.trans (congrArg some (by kernel_rfl))
  f336 := Tryz.func162.trans (congrArg some (by kernel_rfl))
  f344 := Tryz.func163.trans (congrArg some (by kernel_rfl))
  t0 := Tryz.underlying0
  a0 := Tryz.isAgg0
  z0 := Tryz.sizeOf0
  v0 := Tryz.zeroValue0
  t3 := Tryz.underlying3
  a3 := Tryz.isAgg3
  z3 := Tryz.sizeOf3
  v3 := Tryz.zeroValue3
  t4 := Tryz.underlying4
  a4 := Tryz.isAgg4
  z4 := Tryz.sizeOf4
  v4 := Tryz.zeroValue4
  t5 := Tryz.underlying5
  a5 := Tryz.isAgg5
  z5 := Tryz.sizeOf5
  v5 := Tryz.zeroValue5
  t9 := Tryz.underlying9
  a9 := Tryz.isAgg9
  z9 := Tryz.sizeOf9
  v9 := Tryz.zeroValue9
  t31 := Tryz.underlying131
  a31 := Tryz.isAgg131
  z31 := Tryz.sizeOf131
  v31 := Tryz.zeroValue131
  t46 := Tryz.underlying159
  a46 := Tryz.isAgg159
  z46 := Tryz.sizeOf159
  v46 := Tryz.zeroValue159
  t51 := Tryz.underlying169
  a51 := Tryz.isAgg169
  z51 := Tryz.sizeOf169
  v51 := Tryz.zeroValue169
  t53 := Tryz.underlying109
  a53 := Tryz.isAgg109
  z53 := Tryz.sizeOf109
  v53 := Tryz.zeroValue109
  t131 := Tryz.underlying166
  a131 := Tryz.isAgg166
  z131 := Tryz.sizeOf166
  v131 := Tryz.zeroValue166
  t182 := Tryz.underlying161
  a182 := Tryz.isAgg161
  z182 := Tryz.sizeOf161
  v182 := Tryz.zeroValue161
  t183 := Tryz.underlying162
  a183 := Tryz.isAgg162
  z183 := Tryz.sizeOf162
  v183 := Tryz.zeroValue162
  t218 := Tryz.underlying171
  a218 := Tryz.isAgg171
  z218 := Tryz.sizeOf171
  v218 := Tryz.zeroValue171
  t222 := Tryz.underlying175
  a222 := Tryz.isAgg175
  z222 := Tryz.sizeOf175
  v222 := Tryz.zeroValue175
  t228 := Tryz.underlying177
  a228 := Tryz.isAgg177
  z228 := Tryz.sizeOf177
  v228 := Tryz.zeroValue177
  t229 := Tryz.underlying178
  a229 := Tryz.isAgg178
  z229 := Tryz.sizeOf178
  v229 := Tryz.zeroValue178 }
open Go.Sort Go.RowKit in
theorem Tryz.slices_Sort_string (blk off cap : Nat) (ss : List (List UInt8)) (w : World) (hH : Holds encStr w blk off ss.toArray) (hblk : blk < w.heap.size) (hsz : ss.length < 4611686018427387904) :
    Calls Tryz.prog 143 #[.slice (some ⟨blk, off, none⟩) ss.length cap] w fun e w' =>
      e = .returned (.tuple #[]) ∧ ∃ n os, w' = grow (putRow encStr (Sort.ahead w n) blk off (ss.mergeSort fun x y => decide (x ≤ y)).toArray) os := Any.slices_Sort_string Tryz.lays190 blk off cap ss w hH hblk hsz
open Go.Lib in
open Go.Lib in
open Go.Lib in
open Go.Lib in
open Go.RowKit Go.Sort in
theorem Tryz.slices_Sort_string_none (p : Option Addr) (cap : Nat) (w : World) :
    Calls Tryz.prog 143 #[.slice p 0 cap] w fun e w' => e = .returned (.tuple #[]) ∧ w' = w := Any.slices_Sort_string_none Tryz.lays190 p cap w
end Go.Proofs
end
section
namespace Go.Proofs.YtjgcmmpfaemkiaaGreat.Strs
open Go.RowKit Go.Maps Go.WideMaps Go.Sort Go.Proofs.YtjgcmmpfaemkiaaGreatW.PrintWords Go.Proofs.YtjgcmmpfaemkiaaGreatW.PrintLast Go.Proofs.YtjgcmmpfaemkiaaGreatW.PrintMore Go.Proofs.YtjgcmmpfaemkiaaGreat.X
set_option linter.unusedSimpArgs false
set_option linter.unusedVariables false
def big (l : List ByteArray) : Prop := l.length ≤ 1000 ∧ ∀ x ∈ l, x.size ≤ 2000
theorem keyLaw : Keyed Tryz.prog 9 := string_keyed Tryz.underlying9
theorem zeroInt (w : World) : (zeroValue 3).run Tryz.prog w = .ok (.int .i64 0) w := by kernel_rfl
def klOf (s : ByteArray) : Lit := .string s.data.toList
def came (ps : List ByteArray) (s : ByteArray) : Nat := ps.countP (fun y => decide (y.data.toList = s.data.toList))
theorem came_snoc (ps : List ByteArray) (x s : ByteArray) : came (ps ++ [x]) s = came ps s + if x.data.toList = s.data.toList then 1 else 0 := by
  unfold came
  rw [List.countP_append, List.countP_singleton]
  simp only [decide_eq_true_eq]
theorem came_le (ps : List ByteArray) (s : ByteArray) : came ps s ≤ ps.length := List.countP_le_length
theorem came_zero (ps : List ByteArray) (s : ByteArray) : came ps s = 0 ↔ s ∉ ps := by
  unfold came
  rw [List.countP_eq_zero]
  constructor
  · intro h hs; exact absurd (decide_eq_true rfl) (h s hs)
  · intro h y hy he; exact h (bytes_ext (of_decide_eq_true he) ▸ hy)
theorem map_block {H : Type} {P : Program} {w w' : World} {k : TypeId} {R : Value → Option (DataW H × List MemPlace)} {b n : Nat} {D : DataW H} (h : w.ownsMap P k R b n D) (e : w'.heap[b]? = w.heap[b]?) : w'.ownsMap P k R b n D := by
  obtain ⟨es, clock, hb, r⟩ := h
  exact ⟨es, clock, e.trans hb, r⟩
theorem own_grown {w w' : World} {B e size n : Nat} {v : Value} {xs : List Value} {b : Nat} (h : w.ownsRow B e size v n xs) (hg : w.grownBy w' (some b)) (hb : b < B) : w'.ownsRow B e size v n xs := by
  refine ⟨h.1, ?_⟩
  rcases h.2 with h0 | ⟨g, cap, cur, hv, hB, hh, rest⟩
  · exact .inl h0
  · refine .inr ⟨g, cap, cur, hv, hB, ?_, rest⟩
    rw [hg.block g (Array.getElem?_eq_some_iff.1 hh).1 (by simp; omega)]
    exact hh

theorem run_index_sl {P : Program} (T e e2 : TypeId) (n : Nat) (k : IntKind) (hT : P.underlying T = some (.array n e)) (he : P.underlying e = some (.slice e2)) (hs : (P.info? e).map (·.size) = some 1)
    (w : World) (cs : Array Value) (i : Int) (h0 : 0 ≤ i) (h1 : i < n) (hc : cs.size = n) :
    (Instr.index T (.agg cs) (.int k i)).run P w = .ok (cs.getD i.toNat undef) w := by
  obtain ⟨ti, hi, hs1⟩ := Option.map_eq_some_iff.1 hs
  have hi2 : i.toNat < cs.size := by omega
  have hagg : (isAgg e).run P w = .ok false w := by
    unfold isAgg
    rw [Sem.run_bind, run_underlying he w]
    simp
  simp [Instr.index, asIntOf, Sem.run_bind, run_underlying hT, h0, h1, sizeOf, typeInfo, hi, hs1, part, hagg, hi2]
theorem c_cells {w : World} {A : Option Addr} {l : List ByteArray} (h : Kd.C Kd.string w A l.length l) : ∀ j, j < l.length → ∃ ad : Addr, A = some ad ∧ w.cell? (ad.add j) = some (.string (l.getD j ByteArray.empty)) ∧ ad.block < w.heap.size ∧ (ad.add j).block = ad.block := by
  intro j hj
  obtain ⟨ad, rfl, hc⟩ := h.2.2 (by omega)
  obtain ⟨c, hl, hk, hcell⟩ := hc j _ (List.getElem?_eq_getElem hj)
  have e : c = [.string (l.getD j ByteArray.empty)] := by
    have : c = [Value.string l[j]] := hk
    rw [this]; simp [List.getD_eq_getElem?_getD, hj]
  subst e
  have h3 := hcell 0 _ rfl
  rw [show j * Kd.string.sz + 0 = j by simp [Kd.string, Kd.scalar]] at h3
  have hb : (ad.add j).block = ad.block := by unfold Addr.add; split <;> rfl
  exact ⟨ad, rfl, h3, by rw [← hb]; exact World.block_lt_of_cell? w _ h3, hb⟩

structure JoinState (w wr : World) (v : Value) (out ps : List ByteArray) (D : DataW Nat) : Prop where
  own : wr.ownsRow (w.heap.size + 1) 9 1 v out.length (out.map Value.string)
  map : wr.ownsMap Tryz.prog 9 (plainElem Tryz.prog 3) w.heap.size ps.length D
  atk : ∀ s : ByteArray, D.atKey (klOf s) (.lit (.int .i64 0)) = .lit (.int .i64 (came ps s))
  isMap : IsMap D
  nodup : out.Nodup
  mem : ∀ x, x ∈ out ↔ x ∈ ps
  len : out.length ≤ ps.length
  below : Below w.heap.size w wr
  size : w.heap.size + 1 ≤ wr.heap.size

theorem state_atk {D : DataW Nat} {ps : List ByteArray} (x : ByteArray) (c : Int) (hc : c = ((came ps x : Nat) : Int) + 1) (hD : IsMap D) (h : ∀ s : ByteArray, D.atKey (klOf s) (.lit (.int .i64 0)) = .lit (.int .i64 (came ps s))) (s : ByteArray) :
    (D.put (.string x.data.toList) (.lit (.int .i64 c))).atKey (klOf s) (.lit (.int .i64 0)) = .lit (.int .i64 (came (ps ++ [x]) s)) := by
  by_cases hx : x.data.toList = s.data.toList
  · have e : klOf s = .string x.data.toList := by unfold klOf; rw [hx]
    rw [e, atKey_put_same hD (by trivial), came_snoc, if_pos hx, hc]
    have : came ps x = came ps s := by unfold came; rw [hx]
    rw [this]; rfl
  · rw [atKey_put_other (by unfold klOf; intro e; injection e with e; exact hx e.symm), h s, came_snoc, if_neg hx, Nat.add_zero]
theorem JoinState.seen {w wr w1 : World} {v : Value} {out ps : List ByteArray} {D : DataW Nat} (hS : JoinState w wr v out ps D) (x : ByteArray) (hin : x ∈ ps) (c : Int) (hc : c = ((came ps x : Nat) : Int) + 1)
    (hm : w1.ownsMap Tryz.prog 9 (plainElem Tryz.prog 3) w.heap.size (ps.length + 1) (D.put (.string x.data.toList) (.lit (.int .i64 c)))) (hg : wr.grownBy w1 (some w.heap.size)) :
    JoinState w w1 v out (ps ++ [x]) (D.put (.string x.data.toList) (.lit (.int .i64 c))) where
  own := own_grown hS.own hg (Nat.lt_succ_self _)
  map := by rw [List.length_append]; exact hm
  atk := state_atk x c hc hS.isMap hS.atk
  isMap := hS.isMap.put _ _
  nodup := hS.nodup
  mem := fun y => by
    rw [List.mem_append, List.mem_singleton, hS.mem]
    constructor
    · exact .inl
    · rintro (h | rfl)
      · exact h
      · exact hin
  len := by rw [List.length_append]; have := hS.len; simp only [List.length_singleton]; omega
  below := hS.below.grown hg (by have := hS.size; omega) (fun k hk => by cases hk; exact Nat.le_refl _)
  size := Nat.le_trans hS.size hg.size
theorem JoinState.fresh {w wr w1 w2 : World} {v v1 : Value} {out ps : List ByteArray} {D : DataW Nat} (hS : JoinState w wr v out ps D) (x : ByteArray) (hin : x ∉ ps) (c : Int) (hc : c = ((came ps x : Nat) : Int) + 1)
    (hm : w1.ownsMap Tryz.prog 9 (plainElem Tryz.prog 3) w.heap.size (ps.length + 1) (D.put (.string x.data.toList) (.lit (.int .i64 c)))) (hg : wr.grownBy w1 (some w.heap.size))
    (ho : w2.ownsRow (w.heap.size + 1) 9 1 v1 (out.length + 1) (out.map Value.string ++ [.string x])) (hb : Below (w.heap.size + 1) w1 w2) :
    JoinState w w2 v1 (out ++ [x]) (ps ++ [x]) (D.put (.string x.data.toList) (.lit (.int .i64 c))) where
  own := by rw [List.length_append, List.map_append]; exact ho
  map := by rw [List.length_append]; exact map_block hm (hb.block _ (Nat.lt_succ_self _))
  atk := state_atk x c hc hS.isMap hS.atk
  isMap := hS.isMap.put _ _
  nodup := by
    rw [List.nodup_append]
    refine ⟨hS.nodup, by simp, fun a ha b hb2 => ?_⟩
    rw [List.mem_singleton] at hb2
    subst hb2
    intro e; subst e; exact hin ((hS.mem _).1 ha)
  mem := fun y => by rw [List.mem_append, List.mem_append, hS.mem]
  len := by rw [List.length_append, List.length_append]; have := hS.len; simp only [List.length_singleton]; omega
  below := (hS.below.grown hg (by have := hS.size; omega) (fun k hk => by cases hk; exact Nat.le_refl _)).trans (hb.mono (by omega))
  size := Nat.le_trans (Nat.le_trans hS.size hg.size) hb.size

def srt (l : List ByteArray) : List ByteArray := ((l.map (fun x => x.data.toList)).mergeSort (fun x y => decide (x ≤ y))).map (fun b => ⟨b.toArray⟩)
theorem enc_map (l : List ByteArray) : l.map Value.string = (l.map (fun x => x.data.toList)).map encStr := by
  rw [List.map_map]
  apply List.map_congr_left
  intro x _
  simp [encStr]
theorem enc_map' (l : List (List UInt8)) : (l.map (fun b => (⟨b.toArray⟩ : ByteArray))).map Value.string = l.map encStr := by
  rw [List.map_map]
  apply List.map_congr_left
  intro x _
  simp [encStr]
theorem srt_length (l : List ByteArray) : (srt l).length = l.length := by simp [srt]
theorem own_lower {w : World} {B B' e size n : Nat} {v : Value} {xs : List Value} (h : w.ownsRow B e size v n xs) (hB : B' ≤ B) : w.ownsRow B' e size v n xs := own_weaken h hB
theorem srt_joined {l ps : List ByteArray} (hn : l.Nodup) (hm : ∀ x, x ∈ l ↔ x ∈ ps) : (srt l).Pairwise blt ∧ ∀ x, x ∈ srt l ↔ x ∈ ps := by
  have hmem : ∀ x, x ∈ srt l ↔ x ∈ l := by
    intro x
    unfold srt
    rw [List.mem_map]
    constructor
    · rintro ⟨b, hb, rfl⟩
      rw [List.mem_mergeSort, List.mem_map] at hb
      obtain ⟨y, hy, rfl⟩ := hb
      exact hy
    · intro hx
      exact ⟨x.data.toList, by rw [List.mem_mergeSort, List.mem_map]; exact ⟨x, hx, rfl⟩, by simp⟩
  refine ⟨?_, fun x => (hmem x).trans (hm x)⟩
  have hp : ((l.map (fun x => x.data.toList)).mergeSort (fun x y => decide (x ≤ y))).Pairwise (fun x y => decide (x ≤ y) = true) :=
    List.pairwise_mergeSort (fun a b c h1 h2 => by simp only [decide_eq_true_eq] at *; exact Std.le_trans h1 h2) (fun a b => by simp only [Bool.or_eq_true, decide_eq_true_eq]; exact Std.le_total) _
  have hnd : ((l.map (fun x => x.data.toList)).mergeSort (fun x y => decide (x ≤ y))).Nodup := by
    rw [(List.mergeSort_perm _ _).nodup_iff]
    rw [List.nodup_iff_pairwise_ne, List.pairwise_map]
    exact (List.nodup_iff_pairwise_ne.1 hn).imp (fun hne e => hne (bytes_ext e))
  unfold srt
  rw [List.pairwise_map]
  have h2 := hp.and (List.nodup_iff_pairwise_ne.1 hnd)
  refine h2.imp ?_
  rintro a b ⟨hle, hne⟩
  rw [decide_eq_true_eq] at hle
  show (⟨a.toArray⟩ : ByteArray).data.toList < (⟨b.toArray⟩ : ByteArray).data.toList
  rcases Std.lt_trichotomy a b with h1 | h1 | h1
  · exact h1
  · exact absurd h1 hne
  · exact absurd hle (by rw [List.not_le]; exact h1)
theorem sort_any {B : Nat} (v : Value) (out : List ByteArray) (W : World) (h : W.ownsRow B 9 1 v out.length (out.map Value.string)) (hl : out.length ≤ 4000) :
    Calls Tryz.prog 143 #[v] W fun e w' => e = .returned (.tuple #[]) ∧ w'.ownsRow B 9 1 v out.length ((srt out).map Value.string) ∧ W.grownBy w' v.ownBlock := by
  rcases h.2 with ⟨rfl, hn⟩ | ⟨g, cap, cur, rfl, hbase, hb, h1, h2, h3, h4⟩
  · refine (Tryz.slices_Sort_string_none none 0 W).mono ?_
    rintro e w' ⟨rfl, rfl⟩
    have h0 : out = [] := by simpa using hn
    subst h0
    exact ⟨rfl, by simpa [srt] using h, World.grownBy.refl _ _⟩
  · have hc : (out.map (fun x => x.data.toList)).length = out.length := by simp
    have e4 : cur.toList.take (out.map (fun x => x.data.toList)).length = (out.map (fun x => x.data.toList)).map encStr := by rw [hc, ← enc_map]; simpa using h4
    have H := Tryz.slices_Sort_string g 0 cap (out.map (fun x => x.data.toList)) W (holds_of_block hb e4) (Array.getElem?_eq_some_iff.1 hb).1 (by rw [hc]; omega)
    rw [hc] at H
    refine H.mono ?_
    rintro e w' ⟨rfl, n, os, rfl⟩
    refine ⟨rfl, ?_, ?_⟩
    · have h5 := ownsRow_sorted (w := W) (n := n) (os := os) (ss := out.map (fun x => x.data.toList)) (ts := (out.map (fun x => x.data.toList)).mergeSort fun x y => decide (x ≤ y)) (by simp) hbase hb (by rw [hc]; exact h1) h2 (by simpa using h3)
      rw [hc] at h5
      unfold srt
      rw [enc_map']
      exact h5
    · exact grownBy_sorted _

set_option maxRecDepth 1000000 in
set_option maxHeartbeats 8000000 in
theorem join_any (A0 A1 : Option Addr) (c0 c1 : Nat) (l0 l1 : List ByteArray) (w : World) (h0 : Kd.C Kd.string w A0 l0.length l0) (h1 : Kd.C Kd.string w A1 l1.length l1) (f0 : big l0) (f1 : big l1) :
    Calls Tryz.prog 139 #[.slice A0 l0.length c0, .slice A1 l1.length c1] w fun e w' => ∃ v r, e = .returned v ∧ w'.ownsRow w.heap.size 9 1 v r.length (r.map Value.string) ∧ Joined l0 l1 r ∧ Below w.heap.size w w' := by
  have hi : (Tryz.prog.info? 9).map (fun i => (i.zero, i.size, i.bytes)) = some (some (.string ByteArray.empty), 1, 16) := by kernel_rfl
  have HI := Lib.hid hi
  clear hi
  have hmm := @run_makeMap Tryz.prog
  have hidx : ∀ (w : World) (x y : Value) (i : Int), 0 ≤ i → i < 2 → (Instr.index 155 (.agg #[x, y]) (.int .i64 i)).run Tryz.prog w = .ok ((#[x, y] : Array Value).getD i.toNat undef) w := fun w x y i h0 h1 => run_index_sl 155 131 9 2 .i64 Tryz.underlying155 Tryz.underlying131 (by kernel_rfl) w _ i h0 h1 rfl
  have K0 := Lib.hid (c_cells h0)
  have K1 := Lib.hid (c_cells h1)
  have n0 := f0.1
  have n1 := f1.1
  have F0 := Lib.hid f0.2
  have F1 := Lib.hid f1.2
  clear h0 h1 f0 f1
  go_enter Tryz.func139, Tryz.ntmps139
  go_wp2
  refine wp_loop_rounds 3 ?_
  rw [rounds_succ]
  go_wp2
  go_loopw [6, 20] (fun v i wr => ∃ (j : Nat) (out : List ByteArray) (D : DataW Nat), j ≤ l0.length ∧ i = .int .i64 j ∧ Hid (JoinState w wr v out (l0.take (j)) D)) (fun _ i _ => l0.length - (intOf i).toNat)
  case atStart => exact ⟨0, [], .map [], by omega, rfl, Lib.hid ⟨own_none _ _ _ _, World.ownsMap_made w _ _ _, fun s => by simp [came, DataW.atKey], isMap_empty, by simp, by simp, by simp, (Below.refl _ w).alloc (Nat.le_refl _) _, by simp⟩⟩
  case round =>
    obtain ⟨j, out, D, hj, rfl, hS⟩ := hrel
    by_cases hlt : j < l0.length
    · obtain ⟨ad, rfl, hc, hk, ha⟩ := K0.out j hlt
      have hcell : wr.cell? (ad.add j) = some (.string (l0.getD j ByteArray.empty)) := by rw [hS.out.below.cell (p := ad.add j) (by rw [ha]; exact hk), hc]
      have hel : l0.getD j ByteArray.empty = l0[j] := by simp [List.getD_eq_getElem?_getD, hlt]
      have hmem : l0.getD j ByteArray.empty ∈ l0 := by rw [hel]; exact List.getElem_mem hlt
      have htake : (l0.take (j + 1)) = (l0.take (j)) ++ [l0.getD j ByteArray.empty] := by rw [hel, List.take_succ_eq_append_getElem hlt]
      have hxs := F0.out _ hmem
      clear hc hk ha hmem hel
      generalize l0.getD j ByteArray.empty = x at hcell htake hxs
      have HT := Lib.hid htake
      have hlen : x.size ≤ maxLen := by unfold maxLen; omega
      have hpl : (l0.take (j)).length = j := by rw [List.length_take]; omega
      have hsz := hS.out.size
      have hcm := came_le (l0.take (j)) x
      clear htake
      have hlo := hS.out.len
      by_cases hin : x ∈ (l0.take (j))
      · have h0 : came (l0.take (j)) x ≠ 0 := fun e => (came_zero _ _).1 e hin
        have h1 : (((came (l0.take (j)) x : Nat) : Int) + 1 == 1) = false := by simp; omega
        go_wp2_with (first | (at_lookup; refine wpList_lookup_own_int _ rfl _ _ 154 rfl 9 3 .i64 keyLaw Tryz.underlying154 Tryz.underlying3 (zeroInt _) w.heap.size _ _ rfl hS.out.map _ _ rfl (keyOf_string_mk Tryz.underlying9 hlen) ?_; intro c hat hwc; have hcE : c = ((came (l0.take (j)) x : Nat) : Int) := (by have h2 := hS.out.atk x; rw [show klOf x = Lit.string x.data.toList from rfl, hat] at h2; injection h2 with h2; injection h2); subst hcE; clear hat hwc) | (at_mapUpdate; refine wpList_mapUpdate_own _ rfl _ _ _ 154 rfl 9 3 keyLaw Tryz.underlying154 _ w.heap.size _ _ rfl hS.out.map (by unfold maxLen; omega) _ _ _ rfl rfl (keyOf_string_mk Tryz.underlying9 hlen) _ [] (plainElem_int Tryz.underlying3 (WalkArith.wf_i64 (by omega))) ?_; intro w1 hown1 hgrow1; have HM1 := Lib.hid hown1; have HG1 := Lib.hid hgrow1; have hs1 := hgrow1.size; have HO1 := Lib.hid (own_grown hS.out.own hgrow1 (Nat.lt_succ_self _)); clear hown1 hgrow1) | (at_lookup; refine wpList_lookup_own_int _ rfl _ _ 154 rfl 9 3 .i64 keyLaw Tryz.underlying154 Tryz.underlying3 (zeroInt _) w.heap.size _ _ rfl HM1.out _ _ rfl (keyOf_string_mk Tryz.underlying9 hlen) ?_; intro c2 hat hwc; have hcE2 : c2 = ((came (l0.take (j)) x : Nat) : Int) + 1 := (by rw [atKey_put_same hS.out.isMap (by trivial)] at hat; injection hat with hat; injection hat with _ hat; exact hat.symm); subst hcE2; clear hat hwc))
        go_roundw
        case rel => exact ⟨j + 1, _, _, by omega, by go_num, Lib.hid (by rw [HT.out]; exact hS.out.seen x hin _ rfl HM1.out HG1.out)⟩
        case measure => simp [intOf]; omega
      · have h0 : came (l0.take (j)) x = 0 := (came_zero _ _).2 hin
        have h1 : (((came (l0.take (j)) x : Nat) : Int) + 1 == 1) = true := by simp; omega
        go_wp2_with (first | (at_lookup; refine wpList_lookup_own_int _ rfl _ _ 154 rfl 9 3 .i64 keyLaw Tryz.underlying154 Tryz.underlying3 (zeroInt _) w.heap.size _ _ rfl hS.out.map _ _ rfl (keyOf_string_mk Tryz.underlying9 hlen) ?_; intro c hat hwc; have hcE : c = ((came (l0.take (j)) x : Nat) : Int) := (by have h2 := hS.out.atk x; rw [show klOf x = Lit.string x.data.toList from rfl, hat] at h2; injection h2 with h2; injection h2); subst hcE; clear hat hwc) | (at_mapUpdate; refine wpList_mapUpdate_own _ rfl _ _ _ 154 rfl 9 3 keyLaw Tryz.underlying154 _ w.heap.size _ _ rfl hS.out.map (by unfold maxLen; omega) _ _ _ rfl rfl (keyOf_string_mk Tryz.underlying9 hlen) _ [] (plainElem_int Tryz.underlying3 (WalkArith.wf_i64 (by omega))) ?_; intro w1 hown1 hgrow1; have HM1 := Lib.hid hown1; have HG1 := Lib.hid hgrow1; have hs1 := hgrow1.size; have HO1 := Lib.hid (own_grown hS.out.own hgrow1 (Nat.lt_succ_self _)); clear hown1 hgrow1) | (at_lookup; refine wpList_lookup_own_int _ rfl _ _ 154 rfl 9 3 .i64 keyLaw Tryz.underlying154 Tryz.underlying3 (zeroInt _) w.heap.size _ _ rfl HM1.out _ _ rfl (keyOf_string_mk Tryz.underlying9 hlen) ?_; intro c2 hat hwc; have hcE2 : c2 = 1 := (by rw [atKey_put_same hS.out.isMap (by trivial)] at hat; injection hat with hat; injection hat with _ hat; exact hat.symm); subst hcE2; clear hat hwc) | (at_builtin; refine append_one (w0 := w1) (w.heap.size + 1) rfl (.tmp 32) (.tmp 34) 131 9 (.string ByteArray.empty) 1 16 rfl Tryz.underlying131 HI.out rfl (by decide) (by decide) _ _ _ [.string x] rfl rfl rfl (by simp [Value.oneCell']) HO1.out (Below.refl _ _) (Nat.le_trans hsz hs1) (by omega) ?_; intro v1 w2 hown3 hb3 hs3; have HO3 := Lib.hid hown3; have HB3 := Lib.hid hb3; clear hown3 hb3))
        go_roundw
        case rel => exact ⟨j + 1, _, _, by omega, by go_num, Lib.hid (by rw [HT.out]; exact hS.out.fresh x hin 1 (by rw [h0]; rfl) HM1.out HG1.out HO3.out HB3.out)⟩
        case measure => simp [intOf]; omega
    · obtain rfl : j = l0.length := by omega
      have HS := hS
      clear hS hlt
      obtain ⟨wo, rfl⟩ : ∃ wo : World, wo = wr := ⟨_, rfl⟩
      go_wp2
      rw [rounds_succ]
      go_wp2
      go_loopw [6, 20] (fun v i wr => ∃ (j : Nat) (out : List ByteArray) (D : DataW Nat), j ≤ l1.length ∧ i = .int .i64 j ∧ Hid (JoinState w wr v out ((l0 ++ l1.take (j))) D)) (fun _ i _ => l1.length - (intOf i).toNat)
      case atStart => exact ⟨0, out, D, by omega, rfl, Lib.hid (by have h := HS.out; rw [List.take_length] at h; rw [List.take_zero, List.append_nil]; exact h)⟩
      case round =>
        obtain ⟨j, out, D, hj, rfl, hS⟩ := hrel
        by_cases hlt : j < l1.length
        · obtain ⟨ad, rfl, hc, hk, ha⟩ := K1.out j hlt
          have hcell : wr.cell? (ad.add j) = some (.string (l1.getD j ByteArray.empty)) := by rw [hS.out.below.cell (p := ad.add j) (by rw [ha]; exact hk), hc]
          have hel : l1.getD j ByteArray.empty = l1[j] := by simp [List.getD_eq_getElem?_getD, hlt]
          have hmem : l1.getD j ByteArray.empty ∈ l1 := by rw [hel]; exact List.getElem_mem hlt
          have htake : ((l0 ++ l1.take (j + 1))) = ((l0 ++ l1.take (j))) ++ [l1.getD j ByteArray.empty] := by rw [hel, List.take_succ_eq_append_getElem hlt]; rw [List.append_assoc]
          have hxs := F1.out _ hmem
          clear hc hk ha hmem hel
          generalize l1.getD j ByteArray.empty = x at hcell htake hxs
          have HT := Lib.hid htake
          have hlen : x.size ≤ maxLen := by unfold maxLen; omega
          have hpl : ((l0 ++ l1.take (j))).length = l0.length + j := by rw [List.length_append]; rw [List.length_take]; omega
          have hsz := hS.out.size
          have hcm := came_le ((l0 ++ l1.take (j))) x
          clear htake
          have hlo := hS.out.len
          by_cases hin : x ∈ ((l0 ++ l1.take (j)))
          · have h0 : came ((l0 ++ l1.take (j))) x ≠ 0 := fun e => (came_zero _ _).1 e hin
            have h1 : (((came ((l0 ++ l1.take (j))) x : Nat) : Int) + 1 == 1) = false := by simp; omega
            go_wp2_with (first | (at_lookup; refine wpList_lookup_own_int _ rfl _ _ 154 rfl 9 3 .i64 keyLaw Tryz.underlying154 Tryz.underlying3 (zeroInt _) w.heap.size _ _ rfl hS.out.map _ _ rfl (keyOf_string_mk Tryz.underlying9 hlen) ?_; intro c hat hwc; have hcE : c = ((came ((l0 ++ l1.take (j))) x : Nat) : Int) := (by have h2 := hS.out.atk x; rw [show klOf x = Lit.string x.data.toList from rfl, hat] at h2; injection h2 with h2; injection h2); subst hcE; clear hat hwc) | (at_mapUpdate; refine wpList_mapUpdate_own _ rfl _ _ _ 154 rfl 9 3 keyLaw Tryz.underlying154 _ w.heap.size _ _ rfl hS.out.map (by unfold maxLen; omega) _ _ _ rfl rfl (keyOf_string_mk Tryz.underlying9 hlen) _ [] (plainElem_int Tryz.underlying3 (WalkArith.wf_i64 (by omega))) ?_; intro w1 hown1 hgrow1; have HM1 := Lib.hid hown1; have HG1 := Lib.hid hgrow1; have hs1 := hgrow1.size; have HO1 := Lib.hid (own_grown hS.out.own hgrow1 (Nat.lt_succ_self _)); clear hown1 hgrow1) | (at_lookup; refine wpList_lookup_own_int _ rfl _ _ 154 rfl 9 3 .i64 keyLaw Tryz.underlying154 Tryz.underlying3 (zeroInt _) w.heap.size _ _ rfl HM1.out _ _ rfl (keyOf_string_mk Tryz.underlying9 hlen) ?_; intro c2 hat hwc; have hcE2 : c2 = ((came ((l0 ++ l1.take (j))) x : Nat) : Int) + 1 := (by rw [atKey_put_same hS.out.isMap (by trivial)] at hat; injection hat with hat; injection hat with _ hat; exact hat.symm); subst hcE2; clear hat hwc))
            go_roundw
            case rel => exact ⟨j + 1, _, _, by omega, by go_num, Lib.hid (by rw [HT.out]; exact hS.out.seen x hin _ rfl HM1.out HG1.out)⟩
            case measure => simp [intOf]; omega
          · have h0 : came ((l0 ++ l1.take (j))) x = 0 := (came_zero _ _).2 hin
            have h1 : (((came ((l0 ++ l1.take (j))) x : Nat) : Int) + 1 == 1) = true := by simp; omega
            go_wp2_with (first | (at_lookup; refine wpList_lookup_own_int _ rfl _ _ 154 rfl 9 3 .i64 keyLaw Tryz.underlying154 Tryz.underlying3 (zeroInt _) w.heap.size _ _ rfl hS.out.map _ _ rfl (keyOf_string_mk Tryz.underlying9 hlen) ?_; intro c hat hwc; have hcE : c = ((came ((l0 ++ l1.take (j))) x : Nat) : Int) := (by have h2 := hS.out.atk x; rw [show klOf x = Lit.string x.data.toList from rfl, hat] at h2; injection h2 with h2; injection h2); subst hcE; clear hat hwc) | (at_mapUpdate; refine wpList_mapUpdate_own _ rfl _ _ _ 154 rfl 9 3 keyLaw Tryz.underlying154 _ w.heap.size _ _ rfl hS.out.map (by unfold maxLen; omega) _ _ _ rfl rfl (keyOf_string_mk Tryz.underlying9 hlen) _ [] (plainElem_int Tryz.underlying3 (WalkArith.wf_i64 (by omega))) ?_; intro w1 hown1 hgrow1; have HM1 := Lib.hid hown1; have HG1 := Lib.hid hgrow1; have hs1 := hgrow1.size; have HO1 := Lib.hid (own_grown hS.out.own hgrow1 (Nat.lt_succ_self _)); clear hown1 hgrow1) | (at_lookup; refine wpList_lookup_own_int _ rfl _ _ 154 rfl 9 3 .i64 keyLaw Tryz.underlying154 Tryz.underlying3 (zeroInt _) w.heap.size _ _ rfl HM1.out _ _ rfl (keyOf_string_mk Tryz.underlying9 hlen) ?_; intro c2 hat hwc; have hcE2 : c2 = 1 := (by rw [atKey_put_same hS.out.isMap (by trivial)] at hat; injection hat with hat; injection hat with _ hat; exact hat.symm); subst hcE2; clear hat hwc) | (at_builtin; refine append_one (w0 := w1) (w.heap.size + 1) rfl (.tmp 32) (.tmp 34) 131 9 (.string ByteArray.empty) 1 16 rfl Tryz.underlying131 HI.out rfl (by decide) (by decide) _ _ _ [.string x] rfl rfl rfl (by simp [Value.oneCell']) HO1.out (Below.refl _ _) (Nat.le_trans hsz hs1) (by omega) ?_; intro v1 w2 hown3 hb3 hs3; have HO3 := Lib.hid hown3; have HB3 := Lib.hid hb3; clear hown3 hb3))
            go_roundw
            case rel => exact ⟨j + 1, _, _, by omega, by go_num, Lib.hid (by rw [HT.out]; exact hS.out.fresh x hin 1 (by rw [h0]; rfl) HM1.out HG1.out HO3.out HB3.out)⟩
            case measure => simp [intOf]; omega
        · obtain rfl : j = l1.length := by omega
          have HE := Lib.hid (by have h := hS.out; rw [List.take_length] at h; exact h : JoinState w wr _ out (l0 ++ l1) D)
          have hoL : out.length ≤ 4000 := by have h := HE.out.len; rw [List.length_append] at h; omega
          clear hS hlt
          go_wp2
          rw [rounds_succ]
          go_wp2_with ((go_at_call 143); refine (sort_any _ out wr HE.out.own hoL).mono ?_; rintro e w3 ⟨rfl, hs3, hg3⟩; have HSR := Lib.hid hs3; have HG3 := Lib.hid hg3; clear hs3 hg3)
          go_ret
          exact ⟨_, srt out, rfl, by rw [srt_length]; exact own_lower HSR.out (Nat.le_succ _), ⟨(srt_joined HE.out.nodup HE.out.mem).1, fun x => by rw [← List.mem_append]; exact (srt_joined HE.out.nodup HE.out.mem).2 x⟩, HE.out.below.grown HG3.out (by have := HE.out.size; omega) (fun k hk => by have := own_block_le HE.out.own k hk; omega)⟩
def dd : List ByteArray → List ByteArray → List ByteArray
  | acc, [] => acc
  | acc, x :: l => if inB acc x = true then dd acc l else dd (acc ++ [x]) l
theorem dd_nodup : ∀ (l acc : List ByteArray), acc.Nodup → (dd acc l).Nodup
  | [], acc, h => h
  | x :: l, acc, h => by
    unfold dd
    split
    · exact dd_nodup l acc h
    · rename_i hx0
      have hx : x ∉ acc := fun e => hx0 ((inB_iff _ _).2 e)
      refine dd_nodup l _ ?_
      rw [List.nodup_append]
      exact ⟨h, by simp, fun a ha b hb => by rw [List.mem_singleton] at hb; subst hb; intro e; subst e; exact hx ha⟩
theorem dd_mem : ∀ (l acc : List ByteArray) (y : ByteArray), y ∈ dd acc l ↔ y ∈ acc ∨ y ∈ l
  | [], acc, y => by simp [dd]
  | x :: l, acc, y => by
    unfold dd
    split
    · rename_i hx0
      have hx := (inB_iff _ _).1 hx0
      rw [dd_mem l acc y, List.mem_cons]
      constructor
      · rintro (h | h)
        · exact .inl h
        · exact .inr (.inr h)
      · rintro (h | rfl | h)
        · exact .inl h
        · exact .inl hx
        · exact .inr h
    · rw [dd_mem l _ y, List.mem_append, List.mem_singleton, List.mem_cons]
      constructor
      · rintro ((h | h) | h)
        · exact .inl h
        · exact .inr (.inl h)
        · exact .inr (.inr h)
      · rintro (h | h | h)
        · exact .inl (.inl h)
        · exact .inl (.inr h)
        · exact .inr h
def joinB (l0 l1 : List ByteArray) : List ByteArray := srt (dd [] (l0 ++ l1))
theorem joinB_joined (l0 l1 : List ByteArray) : Joined l0 l1 (joinB l0 l1) := by
  have h := srt_joined (ps := l0 ++ l1) (dd_nodup (l0 ++ l1) [] List.nodup_nil) (fun x => by rw [dd_mem]; simp)
  exact ⟨h.1, fun x => by rw [← List.mem_append]; exact h.2 x⟩
instance (l : List ByteArray) : Decidable (big l) := by unfold big; exact inferInstance
end Go.Proofs.YtjgcmmpfaemkiaaGreat.Strs
namespace Go.Proofs.YtjgcmmpfaemkiaaGreat.X
open Go.RowKit Go.Proofs.YtjgcmmpfaemkiaaGreat.Strs Go.Proofs.YtjgcmmpfaemkiaaGreatW.PrintWords Go.Proofs.YtjgcmmpfaemkiaaGreatW.PrintLast Go.Proofs.YtjgcmmpfaemkiaaGreatW.PrintMore
def keys_Join.f (l0 : List ByteArray) (l1 : List ByteArray) : Option (List ByteArray) := if big l0 ∧ big l1 then some (joinB l0 l1) else none
theorem keys_Join.calls (A0 : Option Addr) (c0 : Nat) (l0 : List ByteArray) (A1 : Option Addr) (c1 : Nat) (l1 : List ByteArray) (r : List ByteArray) (w : World) (hr0 : Kd.C Kd.string w A0 l0.length l0) (hc0 : l0.length ≤ c0) (hr1 : Kd.C Kd.string w A1 l1.length l1) (hc1 : l1.length ≤ c1) (h : keys_Join.f l0 l1 = some r) :
    Calls Tryz.prog 139 #[.slice A0 l0.length c0, .slice A1 l1.length c1] w fun e w' => ∃ v0_ : Value, e = .returned (v0_) ∧ Kd.R Kd.string 9 w' w.heap.size (fun _ => True) v0_ r ∧ Below w.heap.size w w' := by
  unfold keys_Join.f at h
  by_cases hb : big l0 ∧ big l1
  · rw [if_pos hb] at h
    obtain rfl := Option.some.inj h
    refine (join_any A0 A1 c0 c1 l0 l1 w hr0 hr1 hb.1 hb.2).mono ?_
    rintro e w' ⟨v, r, rfl, ho, hj, hB⟩
    obtain rfl := hj.unique (joinB_joined l0 l1)
    exact ⟨v, rfl, Kd.R_of_own ho (fun _ _ => trivial), hB⟩
  · rw [if_neg hb] at h; cases h
end Go.Proofs.YtjgcmmpfaemkiaaGreat.X
end
section
namespace Go.Proofs.YtjgcmmpfaemkiaaGreat.V
open Go.Vm
set_option linter.unusedVariables false
set_option linter.unusedSimpArgs false
theorem strs_C {w : World} {S : Nat → Prop} {l : List ByteArray} {A : Option Addr} (hl : l.length ≤ 1000)
    (h : 0 < l.length → ∃ ad inner, A = some ad ∧ S ad.block ∧ inner.length = l.length * 1 ∧ Go.Vm.CellsAt w ad inner ∧ RelL (RelC w S .str) l inner) : Go.Proofs.YtjgcmmpfaemkiaaGreatW.PrintWords.Kd.C Go.Proofs.YtjgcmmpfaemkiaaGreatW.PrintWords.Kd.string w A l.length l := by
  refine ⟨rfl, by omega, fun hp => ?_⟩
  obtain ⟨ad, inner, rfl, _, hi, hc, hr⟩ := h hp
  refine ⟨ad, rfl, fun j y hj => ?_⟩
  obtain ⟨a, c, b, e, ha, hy, _⟩ := hr.at_ (n := 1) (fun y c h => h.len) hj
  refine ⟨c, hy.len, ?_, fun i u hu => ?_⟩
  · exact hy
  · have hi1 : i < c.length := (List.getElem?_eq_some_iff.1 hu).1
    have := hc (j * 1 + i) u (by rw [e, List.append_assoc, List.getElem?_append_right (by omega), List.getElem?_append_left (by omega), ha]; simpa using hu)
    exact this
def keys_Join.spec (k : Nat) : Go.Vm.Spec := .pu [.val (.sl 9 .str), .val (.sl 9 .str)] (.sl 9 .str) (fun a b => Go.Proofs.YtjgcmmpfaemkiaaGreat.X.keys_Join.f a b)
theorem strs_RelL {w : World} {S : Nat → Prop} : ∀ l : List ByteArray, RelL (RelC w S .str) l (l.map Value.string)
  | [] => rfl
  | x :: l => ⟨[.string x], l.map Value.string, rfl, rfl, strs_RelL l⟩
theorem keys_Join.ok (k : Nat) : SpecOk Tryz.prog 139 (keys_Join.spec k) := by
  refine ⟨Tryz.call139, fun w S S1 xs vs y h01 hlt hargs hy => ?_⟩
  obtain ⟨l0, l1, _⟩ := xs
  obtain ⟨v0, vs, rfl, h0, v1, vs', rfl, h1, hn⟩ := hargs
  have hn' : vs' = [] := hn
  subst hn'
  obtain ⟨A0, c0, e0, hc0, r0⟩ := h0
  obtain ⟨A1, c1, e1, hc1, r1⟩ := h1
  obtain rfl := List.singleton_inj.1 e0
  obtain rfl := List.singleton_inj.1 e1
  have hy' : Go.Proofs.YtjgcmmpfaemkiaaGreat.X.keys_Join.f l0 l1 = some y := hy
  unfold Go.Proofs.YtjgcmmpfaemkiaaGreat.X.keys_Join.f at hy'
  split at hy'
  · rename_i hb
    obtain rfl := Option.some.inj hy'
    refine (Go.Proofs.YtjgcmmpfaemkiaaGreat.Strs.join_any A0 A1 c0 c1 l0 l1 w (strs_C hb.1.1 r0) (strs_C hb.2.1 r1) hb.1 hb.2).mono ?_
    rintro e w' ⟨v, r, rfl, ho, hj, hB⟩
    obtain rfl := hj.unique (Go.Proofs.YtjgcmmpfaemkiaaGreat.Strs.joinB_joined l0 l1)
    obtain ⟨hl, h⟩ := ho
    refine ⟨v, rfl, ?_, hB⟩
    rcases h with ⟨rfl, hz⟩ | ⟨g, cap, cur, rfl, hg, hh, hn, hm, hs, ht⟩
    · rw [List.eq_nil_of_length_eq_zero hz]
      exact ⟨none, 0, rfl, Nat.le_refl _, fun h => absurd h (Nat.lt_irrefl 0)⟩
    · refine ⟨some ⟨g, 0, none⟩, cap, rfl, hn, fun _ => ⟨⟨g, 0, none⟩, _, rfl, .inr ⟨hg, (Array.getElem?_eq_some_iff.1 hh).1⟩, by simp [Ty.size], ?_, strs_RelL _⟩⟩
      intro i u hu
      have hi : i < (Go.Proofs.YtjgcmmpfaemkiaaGreat.Strs.joinB l0 l1).length := by have := (List.getElem?_eq_some_iff.1 hu).1; simpa using this
      have e2 : ((⟨g, 0, none⟩ : Addr).add i) = ⟨g, i, none⟩ := by unfold Addr.add; split <;> simp_all
      rw [e2, Go.Proofs.YtjgcmmpfaemkiaaGreatW.PrintWords.blk_cell hh]
      rw [← ht] at hu
      rw [List.getElem?_take] at hu
      split at hu
      · rw [← Array.getElem?_toList]; exact hu
      · cases hu
  · cases hy'
end Go.Proofs.YtjgcmmpfaemkiaaGreat.V
end
section
set_option linter.unusedVariables false
namespace Go.Proofs.YtjgcmmpfaemkiaaGreat.V
open Go.Vm
abbrev Ty_api_Instance : Ty := (.st (.pair Ty.i64 Ty.i64))
abbrev Ty_api_Read : Ty := (.st (.pair .str Ty_api_Instance))
abbrev Ty_api_Write : Ty := (.st (.pair .str .str))
abbrev Ty_api_Command : Ty := (.st (.pair Ty.i64 (.pair Ty_api_Instance (.pair Ty_api_Instance (.pair Ty.i64 (.pair (.sl 96 Ty_api_Read) (.pair (.sl 98 Ty_api_Write) .bool)))))))
abbrev Ty_api_Deps : Ty := (.arr 7 Ty.i64)
abbrev Ty_api_Record : Ty := (.st (.pair Ty_api_Instance (.pair Ty.i64 (.pair Ty_api_Instance (.pair Ty_api_Instance (.pair Ty_api_Command (.pair Ty.i64 (.pair Ty_api_Deps .bool))))))))
abbrev Ty_repair_Vote : Ty := (.st (.pair Ty.i64 Ty_api_Record))
abbrev Ty_althingref14_Lead : Ty := (.st (.pair Ty.i64 (.pair Ty.i64 (.pair Ty.i64 (.pair Ty.i64 (.pair Ty_api_Instance (.pair Ty_api_Record (.pair .bool (.pair Ty.i64 (.pair Ty_api_Deps (.sl 58 Ty_repair_Vote)))))))))))
abbrev Ty_api_Message : Ty := (.st (.pair Ty.i64 (.pair Ty.i64 (.pair Ty.i64 (.pair Ty_api_Instance Ty_api_Record)))))
abbrev Ty_lead_Lead : Ty := (.st (.pair Ty.i64 (.pair Ty.i64 (.pair Ty.i64 (.pair Ty.i64 (.pair Ty_api_Instance (.pair Ty_api_Record (.pair .bool (.pair Ty.i64 (.pair Ty_api_Deps (.sl 80 Ty_repair_Vote)))))))))))
abbrev Ty_lead_Step : Ty := (.st (.pair Ty_api_Record (.pair .bool (.pair Ty.i64 Ty_api_Record))))
def rows : List (Nat × Ty) := [(3, Ty.i64), (4, .bool), (5, (.int .u8)), (9, .str), (23, Ty_api_Instance), (25, Ty_api_Instance), (27, Ty_api_Instance), (29, Ty_api_Instance), (30, (.sl 96 Ty_api_Read)), (31, (.sl 98 Ty_api_Write)), (33, Ty_api_Command), (35, Ty_api_Deps), (37, Ty_api_Record), (38, (.sl 58 Ty_repair_Vote)), (40, Ty_althingref14_Lead), (41, (.sl 37 Ty_api_Record)), (43, Ty_api_Message), (46, (.sl 80 Ty_repair_Vote)), (48, Ty_lead_Lead), (50, Ty_lead_Step), (58, Ty_repair_Vote), (68, Ty.i64), (71, Ty_lead_Step), (80, Ty_repair_Vote), (87, (.sl 3 Ty.i64)), (94, (.sl 33 Ty_api_Command)), (96, Ty_api_Read), (98, Ty_api_Write), (109, (.int .u64)), (117, (.arr 3 Ty.i64)), (119, (.mp Ty.i64 Ty.i64)), (131, (.sl 9 .str))]
def T : Tab := tabOf rows
theorem rowsOk : tabB Tryz.prog rows = true := by kernel_rfl
theorem tabOk : TabOk Tryz.prog T := tabOk_of rowsOk
theorem mix : Tryz.prog.follows .mixedOrders = true := by kernel_rfl
def G_0 : Nat → Gam := fun _ _ => none
theorem ok_0 : GOk Tryz.prog G_0 := GOk.none
def index_Known_1.cuts : List (Nat × List CK) := []
abbrev index_Known_1.ps : List PK := [.val Ty_api_Record, .ro Ty_api_Record]
abbrev index_Known_1.r : Ty := .bool
noncomputable def index_Known_1.raw (k : Nat) (a0 : Ty_api_Record.den) (a1 : Ty_api_Record.den) : Option Bool := runF Alg.std G_0 T Tryz.f130 index_Known_1.cuts index_Known_1.ps index_Known_1.r k a0 a1
noncomputable def index_Known_1 (k : Nat) (a0 : Ty_api_Record.den) (a1 : Ty_api_Record.den) : Option Bool := sealed index_Known_1.raw k a0 a1
theorem index_Known_1_raw (k : Nat) (a0 : Ty_api_Record.den) (a1 : Ty_api_Record.den) : index_Known_1 k a0 a1 = index_Known_1.raw k a0 a1 := by unfold index_Known_1; rw [sealed_eq]
noncomputable def G_index_Known_1 (k : Nat) : Gam := ins 130 (.pu index_Known_1.ps index_Known_1.r (index_Known_1 k)) (G_0 k)
theorem ok_index_Known_1 : GOk Tryz.prog G_index_Known_1 := ok_0.ins fun k => by rw [show index_Known_1 k = index_Known_1.raw k from congrFun (sealed_eq index_Known_1.raw) k]; exact runF_ok tabOk ok_0 mix Tryz.func130 Tryz.call130 index_Known_1.cuts index_Known_1.ps index_Known_1.r (by rw [Tryz.ntmps130]; decide) k
def slices_IndexFunc_api_Record_api_Record.s2 : List CK := [.tmp 0 (.sl 37 Ty_api_Record), .fnp 1 Ty_api_Record .bool, .tmp 7 Ty.i64, .tmp 8 Ty.i64]
def slices_IndexFunc_api_Record_api_Record.cuts : List (Nat × List CK) := [(2, slices_IndexFunc_api_Record_api_Record.s2)]
abbrev slices_IndexFunc_api_Record_api_Record.ps : List PK := [.val (.sl 37 Ty_api_Record), .fn Ty_api_Record .bool]
abbrev slices_IndexFunc_api_Record_api_Record.r : Ty := Ty.i64
noncomputable def slices_IndexFunc_api_Record_api_Record.raw (k : Nat) (a0 : List Ty_api_Record.den) (a1 : Ty_api_Record.den → Option Bool) : Option Int := runF Alg.std G_index_Known_1 T Tryz.f129 slices_IndexFunc_api_Record_api_Record.cuts slices_IndexFunc_api_Record_api_Record.ps slices_IndexFunc_api_Record_api_Record.r k a0 a1
noncomputable def slices_IndexFunc_api_Record_api_Record (k : Nat) (a0 : List Ty_api_Record.den) (a1 : Ty_api_Record.den → Option Bool) : Option Int := sealed slices_IndexFunc_api_Record_api_Record.raw k a0 a1
theorem slices_IndexFunc_api_Record_api_Record_raw (k : Nat) (a0 : List Ty_api_Record.den) (a1 : Ty_api_Record.den → Option Bool) : slices_IndexFunc_api_Record_api_Record k a0 a1 = slices_IndexFunc_api_Record_api_Record.raw k a0 a1 := by unfold slices_IndexFunc_api_Record_api_Record; rw [sealed_eq]
noncomputable def slices_IndexFunc_api_Record_api_Record.c2 (k : Nat) (x0 : List Ty_api_Record.den) (f1 : Ty_api_Record.den → Option Bool) (x7 : Int) (x8 : Int) : Option Int := runC Alg.std G_index_Known_1 T Tryz.f129 slices_IndexFunc_api_Record_api_Record.cuts slices_IndexFunc_api_Record_api_Record.r 2 slices_IndexFunc_api_Record_api_Record.s2 k (x0, f1, x7, x8, ())
noncomputable def G_slices_IndexFunc_api_Record_api_Record (k : Nat) : Gam := ins 129 (.pu slices_IndexFunc_api_Record_api_Record.ps slices_IndexFunc_api_Record_api_Record.r (slices_IndexFunc_api_Record_api_Record k)) (G_index_Known_1 k)
theorem ok_slices_IndexFunc_api_Record_api_Record : GOk Tryz.prog G_slices_IndexFunc_api_Record_api_Record := ok_index_Known_1.ins fun k => by rw [show slices_IndexFunc_api_Record_api_Record k = slices_IndexFunc_api_Record_api_Record.raw k from congrFun (sealed_eq slices_IndexFunc_api_Record_api_Record.raw) k]; exact runF_ok tabOk ok_index_Known_1 mix Tryz.func129 Tryz.call129 slices_IndexFunc_api_Record_api_Record.cuts slices_IndexFunc_api_Record_api_Record.ps slices_IndexFunc_api_Record_api_Record.r (by rw [Tryz.ntmps129]; decide) k
def slices_ContainsFunc_api_Record_api_Record.cuts : List (Nat × List CK) := []
abbrev slices_ContainsFunc_api_Record_api_Record.ps : List PK := [.val (.sl 37 Ty_api_Record), .fn Ty_api_Record .bool]
abbrev slices_ContainsFunc_api_Record_api_Record.r : Ty := .bool
noncomputable def slices_ContainsFunc_api_Record_api_Record.raw (k : Nat) (a0 : List Ty_api_Record.den) (a1 : Ty_api_Record.den → Option Bool) : Option Bool := runF Alg.std G_slices_IndexFunc_api_Record_api_Record T Tryz.f131 slices_ContainsFunc_api_Record_api_Record.cuts slices_ContainsFunc_api_Record_api_Record.ps slices_ContainsFunc_api_Record_api_Record.r k a0 a1
noncomputable def slices_ContainsFunc_api_Record_api_Record (k : Nat) (a0 : List Ty_api_Record.den) (a1 : Ty_api_Record.den → Option Bool) : Option Bool := sealed slices_ContainsFunc_api_Record_api_Record.raw k a0 a1
theorem slices_ContainsFunc_api_Record_api_Record_raw (k : Nat) (a0 : List Ty_api_Record.den) (a1 : Ty_api_Record.den → Option Bool) : slices_ContainsFunc_api_Record_api_Record k a0 a1 = slices_ContainsFunc_api_Record_api_Record.raw k a0 a1 := by unfold slices_ContainsFunc_api_Record_api_Record; rw [sealed_eq]
noncomputable def G_slices_ContainsFunc_api_Record_api_Record (k : Nat) : Gam := ins 131 (.pu slices_ContainsFunc_api_Record_api_Record.ps slices_ContainsFunc_api_Record_api_Record.r (slices_ContainsFunc_api_Record_api_Record k)) (G_slices_IndexFunc_api_Record_api_Record k)
theorem ok_slices_ContainsFunc_api_Record_api_Record : GOk Tryz.prog G_slices_ContainsFunc_api_Record_api_Record := ok_slices_IndexFunc_api_Record_api_Record.ins fun k => by rw [show slices_ContainsFunc_api_Record_api_Record k = slices_ContainsFunc_api_Record_api_Record.raw k from congrFun (sealed_eq slices_ContainsFunc_api_Record_api_Record.raw) k]; exact runF_ok tabOk ok_slices_IndexFunc_api_Record_api_Record mix Tryz.func131 Tryz.call131 slices_ContainsFunc_api_Record_api_Record.cuts slices_ContainsFunc_api_Record_api_Record.ps slices_ContainsFunc_api_Record_api_Record.r (by rw [Tryz.ntmps131]; decide) k
def command_Clone.cuts : List (Nat × List CK) := []
abbrev command_Clone.ps : List PK := [.val Ty_api_Command]
abbrev command_Clone.r : Ty := Ty_api_Command
noncomputable def command_Clone.raw (k : Nat) (a0 : Ty_api_Command.den) : Option Ty_api_Command.den := runF Alg.std G_slices_ContainsFunc_api_Record_api_Record T Tryz.f74 command_Clone.cuts command_Clone.ps command_Clone.r k a0
noncomputable def command_Clone (k : Nat) (a0 : Ty_api_Command.den) : Option Ty_api_Command.den := sealed command_Clone.raw k a0
theorem command_Clone_raw (k : Nat) (a0 : Ty_api_Command.den) : command_Clone k a0 = command_Clone.raw k a0 := by unfold command_Clone; rw [sealed_eq]
noncomputable def G_command_Clone (k : Nat) : Gam := ins 74 (.pu command_Clone.ps command_Clone.r (command_Clone k)) (G_slices_ContainsFunc_api_Record_api_Record k)
theorem ok_command_Clone : GOk Tryz.prog G_command_Clone := ok_slices_ContainsFunc_api_Record_api_Record.ins fun k => by rw [show command_Clone k = command_Clone.raw k from congrFun (sealed_eq command_Clone.raw) k]; exact runF_ok tabOk ok_slices_ContainsFunc_api_Record_api_Record mix Tryz.func74 Tryz.call74 command_Clone.cuts command_Clone.ps command_Clone.r (by rw [Tryz.ntmps74]; decide) k
def index_Known.s3 : List CK := [.tmp 0 (.sl 37 Ty_api_Record), .own 3 37 Ty_api_Record, .tmp 7 (.sl 37 Ty_api_Record), .tmp 8 Ty.i64, .tmp 9 Ty.i64]
def index_Known.cuts : List (Nat × List CK) := [(3, index_Known.s3)]
abbrev index_Known.ps : List PK := [.val (.sl 37 Ty_api_Record)]
abbrev index_Known.r : Ty := (.sl 37 Ty_api_Record)
noncomputable def index_Known.raw (k : Nat) (a0 : List Ty_api_Record.den) : Option (List Ty_api_Record.den) := runO Alg.std G_command_Clone T Tryz.f123 index_Known.cuts index_Known.ps 37 Ty_api_Record k a0
noncomputable def index_Known (k : Nat) (a0 : List Ty_api_Record.den) : Option (List Ty_api_Record.den) := sealed index_Known.raw k a0
theorem index_Known_raw (k : Nat) (a0 : List Ty_api_Record.den) : index_Known k a0 = index_Known.raw k a0 := by unfold index_Known; rw [sealed_eq]
noncomputable def index_Known.c3 (k : Nat) (x0 : List Ty_api_Record.den) (x3 : List Ty_api_Record.den) (x7 : List Ty_api_Record.den) (x8 : Int) (x9 : Int) : Option (List Ty_api_Record.den) := runOC Alg.std G_command_Clone T Tryz.f123 index_Known.cuts 37 Ty_api_Record 3 index_Known.s3 k (x0, x3, x7, x8, x9, ())
theorem index_Known_ok (k : Nat) : SpecOk Tryz.prog 123 (.fr index_Known.ps 37 Ty_api_Record (index_Known k)) := by rw [show index_Known k = index_Known.raw k from congrFun (sealed_eq index_Known.raw) k]; exact runO_ok tabOk ok_command_Clone mix Tryz.func123 Tryz.call123 index_Known.cuts index_Known.ps 37 Ty_api_Record (by rw [Tryz.ntmps123]; decide) k
noncomputable def G_index_Known (k : Nat) : Gam := ins 123 (.fr index_Known.ps 37 Ty_api_Record (index_Known k)) (G_command_Clone k)
theorem ok_index_Known : GOk Tryz.prog G_index_Known := ok_command_Clone.ins index_Known_ok
def command_read.s3 : List CK := [.own 3 9 .str, .tmp 7 (.sl 96 Ty_api_Read), .tmp 8 Ty.i64, .tmp 9 Ty.i64]
def command_read.cuts : List (Nat × List CK) := [(3, command_read.s3)]
abbrev command_read.ps : List PK := [.val Ty_api_Command]
abbrev command_read.r : Ty := (.sl 9 .str)
noncomputable def command_read.raw (k : Nat) (a0 : Ty_api_Command.den) : Option (List ByteArray) := runF Alg.std G_index_Known T Tryz.f108 command_read.cuts command_read.ps command_read.r k a0
noncomputable def command_read (k : Nat) (a0 : Ty_api_Command.den) : Option (List ByteArray) := sealed command_read.raw k a0
theorem command_read_raw (k : Nat) (a0 : Ty_api_Command.den) : command_read k a0 = command_read.raw k a0 := by unfold command_read; rw [sealed_eq]
noncomputable def command_read.c3 (k : Nat) (x3 : List ByteArray) (x7 : List Ty_api_Read.den) (x8 : Int) (x9 : Int) : Option (List ByteArray) := runC Alg.std G_index_Known T Tryz.f108 command_read.cuts command_read.r 3 command_read.s3 k (x3, x7, x8, x9, ())
noncomputable def G_command_read (k : Nat) : Gam := ins 108 (.pu command_read.ps command_read.r (command_read k)) (G_index_Known k)
theorem ok_command_read : GOk Tryz.prog G_command_read := ok_index_Known.ins fun k => by rw [show command_read k = command_read.raw k from congrFun (sealed_eq command_read.raw) k]; exact runF_ok tabOk ok_index_Known mix Tryz.func108 Tryz.call108 command_read.cuts command_read.ps command_read.r (by rw [Tryz.ntmps108]; decide) k
def command_written.s3 : List CK := [.own 3 9 .str, .tmp 7 (.sl 98 Ty_api_Write), .tmp 8 Ty.i64, .tmp 9 Ty.i64]
def command_written.cuts : List (Nat × List CK) := [(3, command_written.s3)]
abbrev command_written.ps : List PK := [.val Ty_api_Command]
abbrev command_written.r : Ty := (.sl 9 .str)
noncomputable def command_written.raw (k : Nat) (a0 : Ty_api_Command.den) : Option (List ByteArray) := runF Alg.std G_command_read T Tryz.f109 command_written.cuts command_written.ps command_written.r k a0
noncomputable def command_written (k : Nat) (a0 : Ty_api_Command.den) : Option (List ByteArray) := sealed command_written.raw k a0
theorem command_written_raw (k : Nat) (a0 : Ty_api_Command.den) : command_written k a0 = command_written.raw k a0 := by unfold command_written; rw [sealed_eq]
noncomputable def command_written.c3 (k : Nat) (x3 : List ByteArray) (x7 : List Ty_api_Write.den) (x8 : Int) (x9 : Int) : Option (List ByteArray) := runC Alg.std G_command_read T Tryz.f109 command_written.cuts command_written.r 3 command_written.s3 k (x3, x7, x8, x9, ())
noncomputable def G_command_written (k : Nat) : Gam := ins 109 (.pu command_written.ps command_written.r (command_written k)) (G_command_read k)
theorem ok_command_written : GOk Tryz.prog G_command_written := ok_command_read.ins fun k => by rw [show command_written k = command_written.raw k from congrFun (sealed_eq command_written.raw) k]; exact runF_ok tabOk ok_command_read mix Tryz.func109 Tryz.call109 command_written.cuts command_written.ps command_written.r (by rw [Tryz.ntmps109]; decide) k
noncomputable def G_keys_Join (k : Nat) : Gam := ins 139 (keys_Join.spec k) (G_command_written k)
theorem ok_keys_Join : GOk Tryz.prog G_keys_Join := ok_command_written.ins (keys_Join.ok)
def command_Keys.cuts : List (Nat × List CK) := []
abbrev command_Keys.ps : List PK := [.val Ty_api_Command]
abbrev command_Keys.r : Ty := (.sl 9 .str)
noncomputable def command_Keys.raw (k : Nat) (a0 : Ty_api_Command.den) : Option (List ByteArray) := runF Alg.std G_keys_Join T Tryz.f133 command_Keys.cuts command_Keys.ps command_Keys.r k a0
noncomputable def command_Keys (k : Nat) (a0 : Ty_api_Command.den) : Option (List ByteArray) := sealed command_Keys.raw k a0
theorem command_Keys_raw (k : Nat) (a0 : Ty_api_Command.den) : command_Keys k a0 = command_Keys.raw k a0 := by unfold command_Keys; rw [sealed_eq]
noncomputable def G_command_Keys (k : Nat) : Gam := ins 133 (.pu command_Keys.ps command_Keys.r (command_Keys k)) (G_keys_Join k)
theorem ok_command_Keys : GOk Tryz.prog G_command_Keys := ok_keys_Join.ins fun k => by rw [show command_Keys k = command_Keys.raw k from congrFun (sealed_eq command_Keys.raw) k]; exact runF_ok tabOk ok_keys_Join mix Tryz.func133 Tryz.call133 command_Keys.cuts command_Keys.ps command_Keys.r (by rw [Tryz.ntmps133]; decide) k
def slices_Index_string_string.s2 : List CK := [.tmp 0 (.sl 9 .str), .tmp 1 .str, .tmp 7 Ty.i64, .tmp 8 Ty.i64]
def slices_Index_string_string.cuts : List (Nat × List CK) := [(2, slices_Index_string_string.s2)]
abbrev slices_Index_string_string.ps : List PK := [.val (.sl 9 .str), .val .str]
abbrev slices_Index_string_string.r : Ty := Ty.i64
noncomputable def slices_Index_string_string.raw (k : Nat) (a0 : List ByteArray) (a1 : ByteArray) : Option Int := runF Alg.std G_command_Keys T Tryz.f142 slices_Index_string_string.cuts slices_Index_string_string.ps slices_Index_string_string.r k a0 a1
noncomputable def slices_Index_string_string (k : Nat) (a0 : List ByteArray) (a1 : ByteArray) : Option Int := sealed slices_Index_string_string.raw k a0 a1
theorem slices_Index_string_string_raw (k : Nat) (a0 : List ByteArray) (a1 : ByteArray) : slices_Index_string_string k a0 a1 = slices_Index_string_string.raw k a0 a1 := by unfold slices_Index_string_string; rw [sealed_eq]
noncomputable def slices_Index_string_string.c2 (k : Nat) (x0 : List ByteArray) (x1 : ByteArray) (x7 : Int) (x8 : Int) : Option Int := runC Alg.std G_command_Keys T Tryz.f142 slices_Index_string_string.cuts slices_Index_string_string.r 2 slices_Index_string_string.s2 k (x0, x1, x7, x8, ())
noncomputable def G_slices_Index_string_string (k : Nat) : Gam := ins 142 (.pu slices_Index_string_string.ps slices_Index_string_string.r (slices_Index_string_string k)) (G_command_Keys k)
theorem ok_slices_Index_string_string : GOk Tryz.prog G_slices_Index_string_string := ok_command_Keys.ins fun k => by rw [show slices_Index_string_string k = slices_Index_string_string.raw k from congrFun (sealed_eq slices_Index_string_string.raw) k]; exact runF_ok tabOk ok_command_Keys mix Tryz.func142 Tryz.call142 slices_Index_string_string.cuts slices_Index_string_string.ps slices_Index_string_string.r (by rw [Tryz.ntmps142]; decide) k
def slices_Contains_string_string.cuts : List (Nat × List CK) := []
abbrev slices_Contains_string_string.ps : List PK := [.val (.sl 9 .str), .val .str]
abbrev slices_Contains_string_string.r : Ty := .bool
noncomputable def slices_Contains_string_string.raw (k : Nat) (a0 : List ByteArray) (a1 : ByteArray) : Option Bool := runF Alg.std G_slices_Index_string_string T Tryz.f138 slices_Contains_string_string.cuts slices_Contains_string_string.ps slices_Contains_string_string.r k a0 a1
noncomputable def slices_Contains_string_string (k : Nat) (a0 : List ByteArray) (a1 : ByteArray) : Option Bool := sealed slices_Contains_string_string.raw k a0 a1
theorem slices_Contains_string_string_raw (k : Nat) (a0 : List ByteArray) (a1 : ByteArray) : slices_Contains_string_string k a0 a1 = slices_Contains_string_string.raw k a0 a1 := by unfold slices_Contains_string_string; rw [sealed_eq]
noncomputable def G_slices_Contains_string_string (k : Nat) : Gam := ins 138 (.pu slices_Contains_string_string.ps slices_Contains_string_string.r (slices_Contains_string_string k)) (G_slices_Index_string_string k)
theorem ok_slices_Contains_string_string : GOk Tryz.prog G_slices_Contains_string_string := ok_slices_Index_string_string.ins fun k => by rw [show slices_Contains_string_string k = slices_Contains_string_string.raw k from congrFun (sealed_eq slices_Contains_string_string.raw) k]; exact runF_ok tabOk ok_slices_Index_string_string mix Tryz.func138 Tryz.call138 slices_Contains_string_string.cuts slices_Contains_string_string.ps slices_Contains_string_string.r (by rw [Tryz.ntmps138]; decide) k
def keys_Meet_1.cuts : List (Nat × List CK) := []
abbrev keys_Meet_1.ps : List PK := [.val .str, .ro (.sl 9 .str)]
abbrev keys_Meet_1.r : Ty := .bool
noncomputable def keys_Meet_1.raw (k : Nat) (a0 : ByteArray) (a1 : List ByteArray) : Option Bool := runF Alg.std G_slices_Contains_string_string T Tryz.f137 keys_Meet_1.cuts keys_Meet_1.ps keys_Meet_1.r k a0 a1
noncomputable def keys_Meet_1 (k : Nat) (a0 : ByteArray) (a1 : List ByteArray) : Option Bool := sealed keys_Meet_1.raw k a0 a1
theorem keys_Meet_1_raw (k : Nat) (a0 : ByteArray) (a1 : List ByteArray) : keys_Meet_1 k a0 a1 = keys_Meet_1.raw k a0 a1 := by unfold keys_Meet_1; rw [sealed_eq]
noncomputable def G_keys_Meet_1 (k : Nat) : Gam := ins 137 (.pu keys_Meet_1.ps keys_Meet_1.r (keys_Meet_1 k)) (G_slices_Contains_string_string k)
theorem ok_keys_Meet_1 : GOk Tryz.prog G_keys_Meet_1 := ok_slices_Contains_string_string.ins fun k => by rw [show keys_Meet_1 k = keys_Meet_1.raw k from congrFun (sealed_eq keys_Meet_1.raw) k]; exact runF_ok tabOk ok_slices_Contains_string_string mix Tryz.func137 Tryz.call137 keys_Meet_1.cuts keys_Meet_1.ps keys_Meet_1.r (by rw [Tryz.ntmps137]; decide) k
def slices_IndexFunc_string_string.s2 : List CK := [.tmp 0 (.sl 9 .str), .fnp 1 .str .bool, .tmp 7 Ty.i64, .tmp 8 Ty.i64]
def slices_IndexFunc_string_string.cuts : List (Nat × List CK) := [(2, slices_IndexFunc_string_string.s2)]
abbrev slices_IndexFunc_string_string.ps : List PK := [.val (.sl 9 .str), .fn .str .bool]
abbrev slices_IndexFunc_string_string.r : Ty := Ty.i64
noncomputable def slices_IndexFunc_string_string.raw (k : Nat) (a0 : List ByteArray) (a1 : ByteArray → Option Bool) : Option Int := runF Alg.std G_keys_Meet_1 T Tryz.f141 slices_IndexFunc_string_string.cuts slices_IndexFunc_string_string.ps slices_IndexFunc_string_string.r k a0 a1
noncomputable def slices_IndexFunc_string_string (k : Nat) (a0 : List ByteArray) (a1 : ByteArray → Option Bool) : Option Int := sealed slices_IndexFunc_string_string.raw k a0 a1
theorem slices_IndexFunc_string_string_raw (k : Nat) (a0 : List ByteArray) (a1 : ByteArray → Option Bool) : slices_IndexFunc_string_string k a0 a1 = slices_IndexFunc_string_string.raw k a0 a1 := by unfold slices_IndexFunc_string_string; rw [sealed_eq]
noncomputable def slices_IndexFunc_string_string.c2 (k : Nat) (x0 : List ByteArray) (f1 : ByteArray → Option Bool) (x7 : Int) (x8 : Int) : Option Int := runC Alg.std G_keys_Meet_1 T Tryz.f141 slices_IndexFunc_string_string.cuts slices_IndexFunc_string_string.r 2 slices_IndexFunc_string_string.s2 k (x0, f1, x7, x8, ())
noncomputable def G_slices_IndexFunc_string_string (k : Nat) : Gam := ins 141 (.pu slices_IndexFunc_string_string.ps slices_IndexFunc_string_string.r (slices_IndexFunc_string_string k)) (G_keys_Meet_1 k)
theorem ok_slices_IndexFunc_string_string : GOk Tryz.prog G_slices_IndexFunc_string_string := ok_keys_Meet_1.ins fun k => by rw [show slices_IndexFunc_string_string k = slices_IndexFunc_string_string.raw k from congrFun (sealed_eq slices_IndexFunc_string_string.raw) k]; exact runF_ok tabOk ok_keys_Meet_1 mix Tryz.func141 Tryz.call141 slices_IndexFunc_string_string.cuts slices_IndexFunc_string_string.ps slices_IndexFunc_string_string.r (by rw [Tryz.ntmps141]; decide) k
def slices_ContainsFunc_string_string.cuts : List (Nat × List CK) := []
abbrev slices_ContainsFunc_string_string.ps : List PK := [.val (.sl 9 .str), .fn .str .bool]
abbrev slices_ContainsFunc_string_string.r : Ty := .bool
noncomputable def slices_ContainsFunc_string_string.raw (k : Nat) (a0 : List ByteArray) (a1 : ByteArray → Option Bool) : Option Bool := runF Alg.std G_slices_IndexFunc_string_string T Tryz.f136 slices_ContainsFunc_string_string.cuts slices_ContainsFunc_string_string.ps slices_ContainsFunc_string_string.r k a0 a1
noncomputable def slices_ContainsFunc_string_string (k : Nat) (a0 : List ByteArray) (a1 : ByteArray → Option Bool) : Option Bool := sealed slices_ContainsFunc_string_string.raw k a0 a1
theorem slices_ContainsFunc_string_string_raw (k : Nat) (a0 : List ByteArray) (a1 : ByteArray → Option Bool) : slices_ContainsFunc_string_string k a0 a1 = slices_ContainsFunc_string_string.raw k a0 a1 := by unfold slices_ContainsFunc_string_string; rw [sealed_eq]
noncomputable def G_slices_ContainsFunc_string_string (k : Nat) : Gam := ins 136 (.pu slices_ContainsFunc_string_string.ps slices_ContainsFunc_string_string.r (slices_ContainsFunc_string_string k)) (G_slices_IndexFunc_string_string k)
theorem ok_slices_ContainsFunc_string_string : GOk Tryz.prog G_slices_ContainsFunc_string_string := ok_slices_IndexFunc_string_string.ins fun k => by rw [show slices_ContainsFunc_string_string k = slices_ContainsFunc_string_string.raw k from congrFun (sealed_eq slices_ContainsFunc_string_string.raw) k]; exact runF_ok tabOk ok_slices_IndexFunc_string_string mix Tryz.func136 Tryz.call136 slices_ContainsFunc_string_string.cuts slices_ContainsFunc_string_string.ps slices_ContainsFunc_string_string.r (by rw [Tryz.ntmps136]; decide) k
def keys_Meet.cuts : List (Nat × List CK) := []
abbrev keys_Meet.ps : List PK := [.val (.sl 9 .str), .val (.sl 9 .str)]
abbrev keys_Meet.r : Ty := .bool
noncomputable def keys_Meet.raw (k : Nat) (a0 : List ByteArray) (a1 : List ByteArray) : Option Bool := runF Alg.std G_slices_ContainsFunc_string_string T Tryz.f132 keys_Meet.cuts keys_Meet.ps keys_Meet.r k a0 a1
noncomputable def keys_Meet (k : Nat) (a0 : List ByteArray) (a1 : List ByteArray) : Option Bool := sealed keys_Meet.raw k a0 a1
theorem keys_Meet_raw (k : Nat) (a0 : List ByteArray) (a1 : List ByteArray) : keys_Meet k a0 a1 = keys_Meet.raw k a0 a1 := by unfold keys_Meet; rw [sealed_eq]
noncomputable def G_keys_Meet (k : Nat) : Gam := ins 132 (.pu keys_Meet.ps keys_Meet.r (keys_Meet k)) (G_slices_ContainsFunc_string_string k)
theorem ok_keys_Meet : GOk Tryz.prog G_keys_Meet := ok_slices_ContainsFunc_string_string.ins fun k => by rw [show keys_Meet k = keys_Meet.raw k from congrFun (sealed_eq keys_Meet.raw) k]; exact runF_ok tabOk ok_slices_ContainsFunc_string_string mix Tryz.func132 Tryz.call132 keys_Meet.cuts keys_Meet.ps keys_Meet.r (by rw [Tryz.ntmps132]; decide) k
def command_Interfere.s3 : List CK := [.ptr 2 2 Ty_api_Command, .ptr 3 3 Ty_api_Command, .box 2 Ty_api_Command [], .box 3 Ty_api_Command []]
def command_Interfere.cuts : List (Nat × List CK) := [(3, command_Interfere.s3)]
abbrev command_Interfere.ps : List PK := [.val Ty_api_Command, .val Ty_api_Command]
abbrev command_Interfere.r : Ty := .bool
noncomputable def command_Interfere.raw (k : Nat) (a0 : Ty_api_Command.den) (a1 : Ty_api_Command.den) : Option Bool := runF Alg.std G_keys_Meet T Tryz.f125 command_Interfere.cuts command_Interfere.ps command_Interfere.r k a0 a1
noncomputable def command_Interfere (k : Nat) (a0 : Ty_api_Command.den) (a1 : Ty_api_Command.den) : Option Bool := sealed command_Interfere.raw k a0 a1
theorem command_Interfere_raw (k : Nat) (a0 : Ty_api_Command.den) (a1 : Ty_api_Command.den) : command_Interfere k a0 a1 = command_Interfere.raw k a0 a1 := by unfold command_Interfere; rw [sealed_eq]
noncomputable def command_Interfere.c3 (k : Nat) (b2 : Ty_api_Command.den) (b3 : Ty_api_Command.den) : Option Bool := runC Alg.std G_keys_Meet T Tryz.f125 command_Interfere.cuts command_Interfere.r 3 command_Interfere.s3 k ((), (), b2, b3, ())
noncomputable def G_command_Interfere (k : Nat) : Gam := ins 125 (.pu command_Interfere.ps command_Interfere.r (command_Interfere k)) (G_keys_Meet k)
theorem ok_command_Interfere : GOk Tryz.prog G_command_Interfere := ok_keys_Meet.ins fun k => by rw [show command_Interfere k = command_Interfere.raw k from congrFun (sealed_eq command_Interfere.raw) k]; exact runF_ok tabOk ok_keys_Meet mix Tryz.func125 Tryz.call125 command_Interfere.cuts command_Interfere.ps command_Interfere.r (by rw [Tryz.ntmps125]; decide) k
def index_Against_1.cuts : List (Nat × List CK) := []
abbrev index_Against_1.ps : List PK := [.val Ty_api_Record, .ro Ty_api_Instance, .ro Ty_api_Command]
abbrev index_Against_1.r : Ty := .bool
noncomputable def index_Against_1.raw (k : Nat) (a0 : Ty_api_Record.den) (a1 : Ty_api_Instance.den) (a2 : Ty_api_Command.den) : Option Bool := runF Alg.std G_command_Interfere T Tryz.f124 index_Against_1.cuts index_Against_1.ps index_Against_1.r k a0 a1 a2
noncomputable def index_Against_1 (k : Nat) (a0 : Ty_api_Record.den) (a1 : Ty_api_Instance.den) (a2 : Ty_api_Command.den) : Option Bool := sealed index_Against_1.raw k a0 a1 a2
theorem index_Against_1_raw (k : Nat) (a0 : Ty_api_Record.den) (a1 : Ty_api_Instance.den) (a2 : Ty_api_Command.den) : index_Against_1 k a0 a1 a2 = index_Against_1.raw k a0 a1 a2 := by unfold index_Against_1; rw [sealed_eq]
noncomputable def G_index_Against_1 (k : Nat) : Gam := ins 124 (.pu index_Against_1.ps index_Against_1.r (index_Against_1 k)) (G_command_Interfere k)
theorem ok_index_Against_1 : GOk Tryz.prog G_index_Against_1 := ok_command_Interfere.ins fun k => by rw [show index_Against_1 k = index_Against_1.raw k from congrFun (sealed_eq index_Against_1.raw) k]; exact runF_ok tabOk ok_command_Interfere mix Tryz.func124 Tryz.call124 index_Against_1.cuts index_Against_1.ps index_Against_1.r (by rw [Tryz.ntmps124]; decide) k
def repair_Decide_1_1.cuts : List (Nat × List CK) := []
abbrev repair_Decide_1_1.ps : List PK := [.val Ty_repair_Vote, .ro Ty.i64]
abbrev repair_Decide_1_1.r : Ty := .bool
noncomputable def repair_Decide_1_1.raw (k : Nat) (a0 : Ty_repair_Vote.den) (a1 : Int) : Option Bool := runF Alg.std G_index_Against_1 T Tryz.f93 repair_Decide_1_1.cuts repair_Decide_1_1.ps repair_Decide_1_1.r k a0 a1
noncomputable def repair_Decide_1_1 (k : Nat) (a0 : Ty_repair_Vote.den) (a1 : Int) : Option Bool := sealed repair_Decide_1_1.raw k a0 a1
theorem repair_Decide_1_1_raw (k : Nat) (a0 : Ty_repair_Vote.den) (a1 : Int) : repair_Decide_1_1 k a0 a1 = repair_Decide_1_1.raw k a0 a1 := by unfold repair_Decide_1_1; rw [sealed_eq]
noncomputable def G_repair_Decide_1_1 (k : Nat) : Gam := ins 93 (.pu repair_Decide_1_1.ps repair_Decide_1_1.r (repair_Decide_1_1 k)) (G_index_Against_1 k)
theorem ok_repair_Decide_1_1 : GOk Tryz.prog G_repair_Decide_1_1 := ok_index_Against_1.ins fun k => by rw [show repair_Decide_1_1 k = repair_Decide_1_1.raw k from congrFun (sealed_eq repair_Decide_1_1.raw) k]; exact runF_ok tabOk ok_index_Against_1 mix Tryz.func93 Tryz.call93 repair_Decide_1_1.cuts repair_Decide_1_1.ps repair_Decide_1_1.r (by rw [Tryz.ntmps93]; decide) k
def quorum_is.cuts : List (Nat × List CK) := []
abbrev quorum_is.ps : List PK := [.val Ty.i64]
abbrev quorum_is.r : Ty := .bool
noncomputable def quorum_is.raw (k : Nat) (a0 : Int) : Option Bool := runF Alg.std G_repair_Decide_1_1 T Tryz.f66 quorum_is.cuts quorum_is.ps quorum_is.r k a0
noncomputable def quorum_is (k : Nat) (a0 : Int) : Option Bool := sealed quorum_is.raw k a0
theorem quorum_is_raw (k : Nat) (a0 : Int) : quorum_is k a0 = quorum_is.raw k a0 := by unfold quorum_is; rw [sealed_eq]
noncomputable def G_quorum_is (k : Nat) : Gam := ins 66 (.pu quorum_is.ps quorum_is.r (quorum_is k)) (G_repair_Decide_1_1 k)
theorem ok_quorum_is : GOk Tryz.prog G_quorum_is := ok_repair_Decide_1_1.ins fun k => by rw [show quorum_is k = quorum_is.raw k from congrFun (sealed_eq quorum_is.raw) k]; exact runF_ok tabOk ok_repair_Decide_1_1 mix Tryz.func66 Tryz.call66 quorum_is.cuts quorum_is.ps quorum_is.r (by rw [Tryz.ntmps66]; decide) k
def quorum_With.cuts : List (Nat × List CK) := []
abbrev quorum_With.ps : List PK := [.val Ty.i64, .val Ty.i64]
abbrev quorum_With.r : Ty := Ty.i64
noncomputable def quorum_With.raw (k : Nat) (a0 : Int) (a1 : Int) : Option Int := runF Alg.std G_quorum_is T Tryz.f37 quorum_With.cuts quorum_With.ps quorum_With.r k a0 a1
noncomputable def quorum_With (k : Nat) (a0 : Int) (a1 : Int) : Option Int := sealed quorum_With.raw k a0 a1
theorem quorum_With_raw (k : Nat) (a0 : Int) (a1 : Int) : quorum_With k a0 a1 = quorum_With.raw k a0 a1 := by unfold quorum_With; rw [sealed_eq]
noncomputable def G_quorum_With (k : Nat) : Gam := ins 37 (.pu quorum_With.ps quorum_With.r (quorum_With k)) (G_quorum_is k)
theorem ok_quorum_With : GOk Tryz.prog G_quorum_With := ok_quorum_is.ins fun k => by rw [show quorum_With k = quorum_With.raw k from congrFun (sealed_eq quorum_With.raw) k]; exact runF_ok tabOk ok_quorum_is mix Tryz.func37 Tryz.call37 quorum_With.cuts quorum_With.ps quorum_With.r (by rw [Tryz.ntmps37]; decide) k
end Go.Proofs.YtjgcmmpfaemkiaaGreat.V
end
section
set_option maxHeartbeats 4000000
set_option maxRecDepth 100000
namespace Go.Proofs.YtjgcmmpfaemkiaaGreat.V
open Go Go.Vm
theorem index_Known_1_eq (k) (a0) (a1) : index_Known_1 k a0 a1 = (some (Ty.beq Ty_api_Instance a0.1 a1.1)) := (index_Known_1_raw k a0 a1).trans (by kernel_rfl)
theorem slices_IndexFunc_api_Record_api_Record_eq (k) (a0) (a1) : slices_IndexFunc_api_Record_api_Record k a0 a1 = (slices_IndexFunc_api_Record_api_Record.c2 k a0 a1 (a0.length : Int) 0) := (slices_IndexFunc_api_Record_api_Record_raw k a0 a1).trans (by kernel_rfl)
theorem slices_IndexFunc_api_Record_api_Record.c2_eq (k) (x0) (f1) (x7) (x8) : slices_IndexFunc_api_Record_api_Record.c2 (k + 1) x0 f1 x7 x8 = (bif (decide (x8 < x7)) then (bif (inI x8 x0.length) then ((f1 (x0.getD (Int.toNat x8) (Ty.zero Ty_api_Record))).bind fun r0 => (bif r0 then (some x8) else (slices_IndexFunc_api_Record_api_Record.c2 k x0 f1 x7 (IntKind.wrap IntKind.i64 (x8 + 1))))) else none) else (some (-1))) := by kernel_rfl
theorem slices_ContainsFunc_api_Record_api_Record_eq (k) (a0) (a1) : slices_ContainsFunc_api_Record_api_Record k a0 a1 = ((slices_IndexFunc_api_Record_api_Record k a0 a1).bind fun r0 => (some (decide (r0 ≥ 0)))) := (slices_ContainsFunc_api_Record_api_Record_raw k a0 a1).trans (by kernel_rfl)
theorem command_Clone_eq (k) (a0) : command_Clone k a0 = (bif (decide ((0 + a0.2.2.2.2.1.length) < 4294967296)) then (bif (decide ((0 + a0.2.2.2.2.2.1.length) < 4294967296)) then (some (a0.1, (a0.2.1, (a0.2.2.1, (a0.2.2.2.1, (a0.2.2.2.2.1, (a0.2.2.2.2.2.1, a0.2.2.2.2.2.2))))))) else none) else none) := (command_Clone_raw k a0).trans (by kernel_rfl)
theorem index_Known_eq (k) (a0) : index_Known k a0 = (index_Known.c3 k a0 [] a0 (a0.length : Int) 0) := (index_Known_raw k a0).trans (by kernel_rfl)
theorem index_Known.c3_eq (k) (x0) (x3) (x7) (x8) (x9) : index_Known.c3 (k + 1) x0 x3 x7 x8 x9 = (bif (decide (x9 < x8)) then (bif (inI x9 x7.length) then (bif (((decide (0 ≤ (IntKind.wrap IntKind.i64 (x9 + 1)))) && (decide ((IntKind.wrap IntKind.i64 (x9 + 1)) ≤ (x0.length : Int)))) && (decide ((x0.length : Int) ≤ (x0.length : Int)))) then ((slices_ContainsFunc_api_Record_api_Record k (sliceL x0 (IntKind.wrap IntKind.i64 (x9 + 1)) (x0.length : Int)) (fun x => (index_Known_1 k x (x7.getD (Int.toNat x9) (Ty.zero Ty_api_Record))))).bind fun r0 => (bif (!r0) then ((command_Clone k (x7.getD (Int.toNat x9) (Ty.zero Ty_api_Record)).2.2.2.2.1).bind fun r1 => (bif (decide ((x3.length + 1) < 4294967296)) then (index_Known.c3 k x0 (x3 ++ [((x7.getD (Int.toNat x9) (Ty.zero Ty_api_Record)).1, ((x7.getD (Int.toNat x9) (Ty.zero Ty_api_Record)).2.1, ((x7.getD (Int.toNat x9) (Ty.zero Ty_api_Record)).2.2.1, ((x7.getD (Int.toNat x9) (Ty.zero Ty_api_Record)).2.2.2.1, (r1, (x7.getD (Int.toNat x9) (Ty.zero Ty_api_Record)).2.2.2.2.2)))))]) x7 x8 (IntKind.wrap IntKind.i64 (x9 + 1))) else none)) else (index_Known.c3 k x0 x3 x7 x8 (IntKind.wrap IntKind.i64 (x9 + 1))))) else none) else none) else (some x3)) := by kernel_rfl
theorem command_read_eq (k) (a0) : command_read k a0 = (command_read.c3 k [] a0.2.2.2.2.1 (a0.2.2.2.2.1.length : Int) 0) := (command_read_raw k a0).trans (by kernel_rfl)
theorem command_read.c3_eq (k) (x3) (x7) (x8) (x9) : command_read.c3 (k + 1) x3 x7 x8 x9 = (bif (decide (x9 < x8)) then (bif (inI x9 x7.length) then (bif (decide ((x3.length + 1) < 4294967296)) then (command_read.c3 k (x3 ++ [(x7.getD (Int.toNat x9) (Ty.zero Ty_api_Read)).1]) x7 x8 (IntKind.wrap IntKind.i64 (x9 + 1))) else none) else none) else (some x3)) := by kernel_rfl
theorem command_written_eq (k) (a0) : command_written k a0 = (command_written.c3 k [] a0.2.2.2.2.2.1 (a0.2.2.2.2.2.1.length : Int) 0) := (command_written_raw k a0).trans (by kernel_rfl)
theorem command_written.c3_eq (k) (x3) (x7) (x8) (x9) : command_written.c3 (k + 1) x3 x7 x8 x9 = (bif (decide (x9 < x8)) then (bif (inI x9 x7.length) then (bif (decide ((x3.length + 1) < 4294967296)) then (command_written.c3 k (x3 ++ [(x7.getD (Int.toNat x9) (Ty.zero Ty_api_Write)).1]) x7 x8 (IntKind.wrap IntKind.i64 (x9 + 1))) else none) else none) else (some x3)) := by kernel_rfl
theorem command_Keys_eq (k) (a0) : command_Keys k a0 = ((command_read k a0).bind fun r0 => ((command_written k a0).bind fun r1 => ((Proofs.YtjgcmmpfaemkiaaGreat.X.keys_Join.f r0 r1).bind fun r2 => (some r2)))) := (command_Keys_raw k a0).trans (by kernel_rfl)
theorem slices_Index_string_string_eq (k) (a0) (a1) : slices_Index_string_string k a0 a1 = (slices_Index_string_string.c2 k a0 a1 (a0.length : Int) 0) := (slices_Index_string_string_raw k a0 a1).trans (by kernel_rfl)
theorem slices_Index_string_string.c2_eq (k) (x0) (x1) (x7) (x8) : slices_Index_string_string.c2 (k + 1) x0 x1 x7 x8 = (bif (decide (x8 < x7)) then (bif (inI x8 x0.length) then (bif (decide (x1 = (x0.getD (Int.toNat x8) (⟨#[]⟩ : ByteArray)))) then (some x8) else (slices_Index_string_string.c2 k x0 x1 x7 (IntKind.wrap IntKind.i64 (x8 + 1)))) else none) else (some (-1))) := by kernel_rfl
theorem slices_Contains_string_string_eq (k) (a0) (a1) : slices_Contains_string_string k a0 a1 = ((slices_Index_string_string k a0 a1).bind fun r0 => (some (decide (r0 ≥ 0)))) := (slices_Contains_string_string_raw k a0 a1).trans (by kernel_rfl)
theorem keys_Meet_1_eq (k) (a0) (a1) : keys_Meet_1 k a0 a1 = ((slices_Contains_string_string k a1 a0).bind fun r0 => (some r0)) := (keys_Meet_1_raw k a0 a1).trans (by kernel_rfl)
theorem slices_IndexFunc_string_string_eq (k) (a0) (a1) : slices_IndexFunc_string_string k a0 a1 = (slices_IndexFunc_string_string.c2 k a0 a1 (a0.length : Int) 0) := (slices_IndexFunc_string_string_raw k a0 a1).trans (by kernel_rfl)
theorem slices_IndexFunc_string_string.c2_eq (k) (x0) (f1) (x7) (x8) : slices_IndexFunc_string_string.c2 (k + 1) x0 f1 x7 x8 = (bif (decide (x8 < x7)) then (bif (inI x8 x0.length) then ((f1 (x0.getD (Int.toNat x8) (⟨#[]⟩ : ByteArray))).bind fun r0 => (bif r0 then (some x8) else (slices_IndexFunc_string_string.c2 k x0 f1 x7 (IntKind.wrap IntKind.i64 (x8 + 1))))) else none) else (some (-1))) := by kernel_rfl
theorem slices_ContainsFunc_string_string_eq (k) (a0) (a1) : slices_ContainsFunc_string_string k a0 a1 = ((slices_IndexFunc_string_string k a0 a1).bind fun r0 => (some (decide (r0 ≥ 0)))) := (slices_ContainsFunc_string_string_raw k a0 a1).trans (by kernel_rfl)
theorem keys_Meet_eq (k) (a0) (a1) : keys_Meet k a0 a1 = ((slices_ContainsFunc_string_string k a0 (fun x => (keys_Meet_1 k x a1))).bind fun r0 => (some r0)) := (keys_Meet_raw k a0 a1).trans (by kernel_rfl)
theorem command_Interfere_eq (k) (a0) (a1) : command_Interfere k a0 a1 = (bif (a0.1 == 0) then (some false) else (bif (a1.1 == 0) then (some false) else (command_Interfere.c3 k a0 a1))) := (command_Interfere_raw k a0 a1).trans (by kernel_rfl)
theorem command_Interfere.c3_eq (k) (b2) (b3) : command_Interfere.c3 (k + 1) b2 b3 = (bif (Ty.beq Ty_api_Instance b2.2.1 b3.2.1) then (some true) else ((command_Keys k b2).bind fun r0 => ((command_Keys k b3).bind fun r1 => ((keys_Meet k r0 r1).bind fun r2 => (some r2))))) := by kernel_rfl
theorem index_Against_1_eq (k) (a0) (a1) (a2) : index_Against_1 k a0 a1 a2 = (bif (Ty.beq Ty_api_Instance a0.1 a1) then (some true) else (bif (decide (a0.2.1 ≤ 0)) then (some true) else ((command_Interfere k a0.2.2.2.2.1 a2).bind fun r0 => (some (!r0))))) := (index_Against_1_raw k a0 a1 a2).trans (by kernel_rfl)
theorem repair_Decide_1_1_eq (k) (a0) (a1) : repair_Decide_1_1 k a0 a1 = (some (a0.2.2.1 == a1)) := (repair_Decide_1_1_raw k a0 a1).trans (by kernel_rfl)
theorem quorum_is_eq (k) (a0) : quorum_is k a0 = (bif (decide (a0 ≥ 0)) then (some (decide (a0 < 7))) else (some false)) := (quorum_is_raw k a0).trans (by kernel_rfl)
theorem quorum_With_eq (k) (a0) (a1) : quorum_With k a0 a1 = ((quorum_is k a1).bind fun r0 => (bif (!r0) then (some a0) else (bif (decide (0 ≤ a1)) then (some (bitsI BinOp.or IntKind.i64 a0 (shlI IntKind.i64 1 a1))) else none))) := (quorum_With_raw k a0 a1).trans (by kernel_rfl)
end Go.Proofs.YtjgcmmpfaemkiaaGreat.V
end
section
namespace Go.Proofs.YtjgcmmpfaemkiaaGreat.V
open Go Go.Vm Go.Proofs.YtjgcmmpfaemkiaaGreat.Strs
set_option linter.unusedVariables false
set_option linter.unusedSimpArgs false
abbrev Cm := Ty_api_Command.den
abbrev Rd := Ty_api_Read.den
abbrev Wr := Ty_api_Write.den
abbrev Rc := Ty_api_Record.den
abbrev In := Ty_api_Instance.den
def rk (r : List Rd) : List ByteArray := r.map (·.1)
def wk (w : List Wr) : List ByteArray := w.map (·.1)
def small (c : Cm) : Prop := c.2.2.2.2.1.length ≤ 20 ∧ c.2.2.2.2.2.1.length ≤ 20 ∧ (∀ x ∈ c.2.2.2.2.1, x.1.size ≤ 100) ∧ ∀ x ∈ c.2.2.2.2.2.1, x.1.size ≤ 100 ∧ x.2.size ≤ 100
def keysV (c : Cm) : List ByteArray := joinB (rk c.2.2.2.2.1) (wk c.2.2.2.2.2.1)
def meetV (l m : List ByteArray) : Bool := l.any fun x => m.any fun y => decide (x = y)
def interV (a b : Cm) : Bool := !(a.1 == 0) && (!(b.1 == 0) && (Ty.beq Ty_api_Instance a.2.1 b.2.1 || meetV (keysV a) (keysV b)))
theorem read_ev (c : Cm) (h : c.2.2.2.2.1.length ≤ 2000) : Ev (fun k => command_read k c) (rk c.2.2.2.2.1) := by
  refine Ev.congr (fun k => command_read_eq k c) ?_
  have := Ev.fold0 c.2.2.2.2.1 (fun k s i => command_read.c3 k s c.2.2.2.2.1 (c.2.2.2.2.1.length : Int) i) (fun s x => s ++ [x.1]) id (fun i s => s.length = i) [] rfl
    (fun s hs => Ev.step (fun k => by rw [command_read.c3_eq, lt_ff (Nat.lt_irrefl _)]; rfl) (Ev.some s))
    (fun i s hi hs => ⟨by simp [hs], fun r hr => Ev.step (fun k => by
      rw [command_read.c3_eq, lt_tt hi, inI_tt hi, getD_at hi, wrap_at (by omega), lt32 (by omega)]; rfl) hr⟩)
  rw [foldl_app] at this
  exact this
theorem written_ev (c : Cm) (h : c.2.2.2.2.2.1.length ≤ 2000) : Ev (fun k => command_written k c) (wk c.2.2.2.2.2.1) := by
  refine Ev.congr (fun k => command_written_eq k c) ?_
  have := Ev.fold0 c.2.2.2.2.2.1 (fun k s i => command_written.c3 k s c.2.2.2.2.2.1 (c.2.2.2.2.2.1.length : Int) i) (fun s x => s ++ [x.1]) id (fun i s => s.length = i) [] rfl
    (fun s hs => Ev.step (fun k => by rw [command_written.c3_eq, lt_ff (Nat.lt_irrefl _)]; rfl) (Ev.some s))
    (fun i s hi hs => ⟨by simp [hs], fun r hr => Ev.step (fun k => by
      rw [command_written.c3_eq, lt_tt hi, inI_tt hi, getD_at hi, wrap_at (by omega), lt32 (by omega)]; rfl) hr⟩)
  rw [foldl_app] at this
  exact this
theorem rk_big {c : Cm} (h : small c) : big (rk c.2.2.2.2.1) := ⟨by unfold rk; rw [List.length_map]; have := h.1; omega, fun x hx => by
  obtain ⟨y, hy, rfl⟩ := List.mem_map.1 hx
  have := h.2.2.1 y hy
  omega⟩
theorem wk_big {c : Cm} (h : small c) : big (wk c.2.2.2.2.2.1) := ⟨by unfold wk; rw [List.length_map]; have := h.2.1; omega, fun x hx => by
  obtain ⟨y, hy, rfl⟩ := List.mem_map.1 hx
  have := (h.2.2.2 y hy).1
  omega⟩
theorem keys_ev (c : Cm) (h : small c) : Ev (fun k => command_Keys k c) (keysV c) := by
  refine Ev.congr (fun k => command_Keys_eq k c) (Ev.bind (read_ev c (by have := h.1; omega)) (Ev.bind (written_ev c (by have := h.2.1; omega)) (Ev.bind (Ev.const ?_) (Ev.some _))))
  unfold Go.Proofs.YtjgcmmpfaemkiaaGreat.X.keys_Join.f
  rw [if_pos ⟨rk_big h, wk_big h⟩]; rfl
theorem contains_at (l : List ByteArray) (x : ByteArray) (hl : l.length ≤ 1000000) (k : Nat) (hk : l.length < k) : slices_Contains_string_string k l x = some (l.any fun y => decide (x = y)) := by
  rw [slices_Contains_string_string_eq, slices_Index_string_string_eq]
  have := search_at l (fun k i => slices_Index_string_string.c2 k l x (l.length : Int) i) (fun y => decide (x = y)) (fun i => (i : Int)) (-1)
    (fun k => by rw [slices_Index_string_string.c2_eq, lt_ff (Nat.lt_irrefl _)]; rfl)
    (fun k i hi => by rw [slices_Index_string_string.c2_eq, lt_tt hi, inI_tt hi, getD_at hi, wrap_at (by omega)]; rfl) l.length 0 (by omega) k hk
  rw [show ((0 : Nat) : Int) = 0 from rfl] at this
  rw [this, List.drop_zero]
  simp only [Nat.zero_add]
  show some (decide (idxOf (fun y => decide (x = y)) l ≥ 0)) = _
  rw [idxOf_any]
theorem meet_at (l m : List ByteArray) (hl : l.length ≤ 1000000) (hm : m.length ≤ 1000000) (k : Nat) (hk : l.length + m.length < k) : keys_Meet k l m = some (meetV l m) := by
  have hc : ∀ x, keys_Meet_1 k x m = some (m.any fun y => decide (x = y)) := fun x => by
    rw [keys_Meet_1_eq, contains_at m x hm k (by omega)]; rfl
  rw [keys_Meet_eq, slices_ContainsFunc_string_string_eq, slices_IndexFunc_string_string_eq]
  have := search_at l (fun j i => slices_IndexFunc_string_string.c2 j l (fun x => keys_Meet_1 k x m) (l.length : Int) i) (fun x => m.any fun y => decide (x = y)) (fun i => (i : Int)) (-1)
    (fun k => by rw [slices_IndexFunc_string_string.c2_eq, lt_ff (Nat.lt_irrefl _)]; rfl)
    (fun j i hi => by
      rw [slices_IndexFunc_string_string.c2_eq, lt_tt hi, inI_tt hi, getD_at hi, wrap_at (by omega), hc]; rfl) l.length 0 (by omega) k (by omega)
  rw [show ((0 : Nat) : Int) = 0 from rfl] at this
  rw [this, List.drop_zero]
  simp only [Nat.zero_add]
  show some (decide (idxOf (fun x => m.any fun y => decide (x = y)) l ≥ 0)) = _
  rw [idxOf_any]
  rfl
theorem joinV_len (l0 l1 : List ByteArray) : (joinB l0 l1).length ≤ l0.length + l1.length := by
  unfold joinB
  rw [srt_length]
  have : ∀ (l acc : List ByteArray), (dd acc l).length ≤ acc.length + l.length := by
    intro l
    induction l with
    | nil => intro acc; simp [dd]
    | cons x l ih =>
      intro acc
      unfold dd
      split
      · have := ih acc; simp only [List.length_cons]; omega
      · have := ih (acc ++ [x]); simp only [List.length_cons, List.length_append, List.length_nil] at *; omega
  have := this (l0 ++ l1) []
  simpa using this
theorem keysV_len {c : Cm} (h : small c) : (keysV c).length ≤ 40 := by
  have := joinV_len (rk c.2.2.2.2.1) (wk c.2.2.2.2.2.1)
  unfold rk wk at this
  simp only [List.length_map] at this
  have h1 := h.1
  have h2 := h.2.1
  unfold keysV rk wk
  omega
theorem inter_ev (a b : Cm) (ha : small a) (hb : small b) : Ev (fun k => command_Interfere k a b) (interV a b) := by
  refine Ev.congr (fun k => command_Interfere_eq k a b) ?_
  unfold interV
  cases h1 : a.1 == 0 with
  | true => exact Ev.some _
  | false =>
    refine Ev.bif_ff rfl ?_
    cases h2 : b.1 == 0 with
    | true => exact Ev.some _
    | false =>
      refine Ev.bif_ff rfl (Ev.step (fun k => command_Interfere.c3_eq k a b) ?_)
      cases h3 : Ty.beq Ty_api_Instance a.2.1 b.2.1 with
      | true => exact Ev.some _
      | false =>
        refine Ev.bif_ff rfl (Ev.bind (keys_ev a ha) (Ev.bind (keys_ev b hb) (Ev.bind (a := meetV (keysV a) (keysV b)) ⟨100, fun k hk => meet_at _ _ ?_ ?_ k ?_⟩ (Ev.some _))))
        · have := keysV_len ha; omega
        · have := keysV_len hb; omega
        · have := keysV_len ha; have := keysV_len hb; omega
end Go.Proofs.YtjgcmmpfaemkiaaGreat.V
end
section
namespace Go.Proofs.YtjgcmmpfaemkiaaGreat
open Go.RowKit Go.Proofs.YtjgcmmpfaemkiaaGreatW.PrintWords Go.Proofs.YtjgcmmpfaemkiaaGreatW.PrintLast Go.Proofs.YtjgcmmpfaemkiaaGreatW.PrintMore
set_option linter.unusedVariables false
section
variable {P : Program} {ops : Array Oper} {rest : List Oper} {o o1 o2 : Oper} {a : Act} {Q : Exit → Act → World → Prop}
theorem alloc_store_event {W : World} (hg1 : o1.guard = none) {N : Tmp} (hd1 : o1.dst = some N) (hg2 : o2.guard = none) (hd2 : o2.dst = none) {t : TypeId} {x : Operand} (ho2 : o2.op = .store t (.tmp N) x) {cs0 cs : Array Value}
    (hrun : (execOp a.eval o1).run P W = .ok (.value (.pointer (some ⟨W.heap.size, 0, none⟩))) (W.alloc (.cells cs0 t (0, 0))))
    (hp : (a.put (some N) (.pointer (some ⟨W.heap.size, 0, none⟩))).eval (.tmp N) = .pointer (some ⟨W.heap.size, 0, none⟩))
    (hx : (a.put (some N) (.pointer (some ⟨W.heap.size, 0, none⟩))).eval x = .agg cs) (hsz : cs.size = cs0.size) (h1 : cs.toList.all (fun q => q.oneCell') = true) (ht : (P.info? t).map (·.size) = some cs.size)
    (h : ∀ g, g = W.heap.size → ∀ w1, w1.heap[g]? = some (.cells cs t (0, 0)) → Below W.heap.size W w1 → wpList P ops Q rest (a.put o1.dst (.pointer (some ⟨g, 0, none⟩))) w1) : wpList P ops Q (o1 :: o2 :: rest) a W := by
  have hb0 := blk_new W (.cells cs0 t (0, 0))
  obtain ⟨cur', h3, h4, h5⟩ := setCells_row cs.toList 0 (W.alloc (.cells cs0 t (0, 0))) cs0 hb0 (by simp [hsz])
  have hc : cur' = cs := by
    apply Array.toList_inj.1
    rw [h5]; simp [hsz]
  subst hc
  obtain ⟨s1, s2, s3, s4⟩ := setCells_same W.heap.size cur'.toList 0 (W.alloc (.cells cs0 t (0, 0)))
  have hB0 := below_alloc (Below.refl W.heap.size W) (.cells cs0 t (0, 0))
  have hB : Below W.heap.size W ((W.alloc (.cells cs0 t (0, 0))).setCells W.heap.size 0 cur'.toList) :=
    hB0.trans ⟨s1, s2, s3, by rw [s4]; exact Nat.le_refl _, fun k hk => setCells_far _ _ k (by omega)⟩
  refine Kd.event_run hg1 hrun ?_
  rw [hd1]
  refine wpList_plain hg2 fun K hK => ?_
  have hst : (Instr.storeAt t (.pointer (some ⟨W.heap.size, 0, none⟩)) (.agg cur')).run P (W.alloc (.cells cs0 t (0, 0))) = .ok () ((W.alloc (.cells cs0 t (0, 0))).setCells W.heap.size 0 cur'.toList) :=
    run_store_run t (.agg cur') cur'.toList hb0 rfl (by rw [ht, Array.length_toList]) (by simp [hsz]) (fun q hq => by
      exact List.all_eq_true.1 h1 q hq)
  unfold Oper.wp execOp
  simp only [ho2, hp, hx, Sem.run_bind, Sem.run_pure, Result.andThen_ok, hst]
  show K ((a.put (some N) _).put o2.dst undef) _
  rw [hd2]
  have h6 := h _ rfl _ h3 hB
  rw [hd1] at h6
  exact hK _ _ h6
theorem load_event {W : World} (hgd : o.guard = none) {N : Tmp} (_hd : o.dst = some N) {t : TypeId} {x : Operand} (ho : o.op = .load t x) {p : Addr} {v : Value} (hx : a.eval x = .pointer (some p)) (hrun : (loadVar t p).run P W = .ok v W)
    (h : wpList P ops Q rest (a.put o.dst v) W) : wpList P ops Q (o :: rest) a W := by
  refine wpList_plain hgd fun K hK => ?_
  unfold Oper.wp execOp
  simp only [ho, hx, Instr.loadAt, Instr.sureAddr, Sem.run_bind, Sem.run_pure, Result.andThen_ok, hrun]
  exact hK _ _ h
end
end Go.Proofs.YtjgcmmpfaemkiaaGreat
end
section
namespace Go.Proofs.YtjgcmmpfaemkiaaGreat
open Go.RowKit Go.Proofs.YtjgcmmpfaemkiaaGreatW.PrintWords Go.Proofs.YtjgcmmpfaemkiaaGreatW.PrintLast Go.Proofs.YtjgcmmpfaemkiaaGreatW.PrintMore
set_option linter.unusedVariables false
def CellsAt (W : World) (p : Addr) : Nat → List Value → Prop
  | _, [] => True
  | k, v :: vs => W.cell? ⟨p.block, p.off + k, none⟩ = some v ∧ CellsAt W p (k + 1) vs
theorem CellsAt.get {W : World} {p : Addr} : ∀ (cs : List Value) (k : Nat), CellsAt W p k cs → ∀ j v, cs[j]? = some v → W.cell? ⟨p.block, p.off + (k + j), none⟩ = some v
  | [], _, _, j, v, h => by simp at h
  | c :: cs, k, hc, 0, v, h => by
    obtain rfl : c = v := by simpa using h
    exact hc.1
  | c :: cs, k, hc, j + 1, v, h => by
    have := CellsAt.get cs (k + 1) hc.2 j v (by simpa using h)
    rwa [show k + 1 + j = k + (j + 1) by omega] at this
theorem plain_addr {w : World} {ad : Addr} {v : Value} (h : w.cell? ad = some v) : ∃ b o, ad = ⟨b, o, none⟩ := by
  obtain ⟨b, o, s⟩ := ad
  cases s with
  | none => exact ⟨b, o, rfl⟩
  | some x =>
    exfalso
    simp only [World.cell?] at h
    split at h <;> simp at h
theorem cells_load_event {P : Program} {ops : Array Oper} {rest : List Oper} {o : Oper} {a : Act} {Q : Exit → Act → World → Prop} {W : World} (hgd : o.guard = none) {N : Tmp} (hd : o.dst = some N) {t : TypeId} {x : Operand} (ho : o.op = .load t x) {p : Addr} (hx : a.eval x = .pointer (some p))
    {v : Value} {cs : List Value} (hD : ∃ D, P.underlying t = some D ∧ (match D with | .struct _ | .array _ _ => true | _ => false) = true) (ht : (P.info? t).map (·.size) = some (cs.length + 1)) (h0 : W.cell? p = some v) (hc : CellsAt W p 1 cs)
    (h : wpList P ops Q rest (a.put o.dst (.agg (v :: cs).toArray)) W) : wpList P ops Q (o :: rest) a W := by
  refine load_event hgd hd ho hx ?_ h
  obtain ⟨D, hu, hD⟩ := hD
  obtain ⟨b, of, rfl⟩ := plain_addr h0
  have hcells : (loadCells ⟨b, of, none⟩ (v :: cs).length).run P W = .ok (v :: cs).toArray W := run_loadCells_list (P := P) W ⟨b, of, none⟩ (v :: cs) (fun j u hu => by
    have ha : (⟨b, of, none⟩ : Addr).add j = ⟨b, of + j, none⟩ := by unfold Addr.add; split <;> simp_all
    rw [ha]
    cases j with
    | zero =>
      obtain rfl : v = u := by simpa using hu
      exact h0
    | succ j =>
      have := CellsAt.get cs 1 hc j u (by simpa using hu)
      rwa [show 1 + j = j + 1 by omega] at this)
  have hagg : (isAgg t).run P W = .ok true W := by
    unfold isAgg
    rw [Sem.run_bind, run_underlying hu W]
    cases D <;> simp_all
  obtain ⟨ti, hi, hs⟩ := Option.map_eq_some_iff.1 ht
  rw [List.length_cons] at hcells
  simp [loadVar, Sem.run_bind, hagg, sizeOf, typeInfo, hi, hs, hcells]
theorem blk_load_event {P : Program} {ops : Array Oper} {rest : List Oper} {o : Oper} {a : Act} {Q : Exit → Act → World → Prop} {W : World} (hgd : o.guard = none) {N : Tmp} (hd : o.dst = some N) {t : TypeId} {x : Operand} (ho : o.op = .load t x) {g : Nat} (hx : a.eval x = .pointer (some ⟨g, 0, none⟩))
    {cs : Array Value} {t' : TypeId} (hb : W.heap[g]? = some (.cells cs t' (0, 0))) (hD : ∃ D, P.underlying t = some D ∧ (match D with | .struct _ | .array _ _ => true | _ => false) = true) (ht : (P.info? t).map (·.size) = some cs.size)
    (h : wpList P ops Q rest (a.put o.dst (.agg cs)) W) : wpList P ops Q (o :: rest) a W := by
  refine load_event hgd hd ho hx ?_ h
  obtain ⟨D, hu, hD⟩ := hD
  have hcells : (loadCells ⟨g, 0, none⟩ cs.size).run P W = .ok cs W := by
    have := run_loadCells_list (P := P) W ⟨g, 0, none⟩ cs.toList (fun j u hu => by
      have ha : (⟨g, 0, none⟩ : Addr).add j = ⟨g, j, none⟩ := by unfold Addr.add; split <;> simp_all
      rw [ha, blk_cell hb j]
      rwa [Array.getElem?_toList] at hu)
    rw [Array.length_toList] at this
    simpa using this
  have hagg : (isAgg t).run P W = .ok true W := by
    unfold isAgg
    rw [Sem.run_bind, run_underlying hu W]
    cases D <;> simp_all
  obtain ⟨ti, hi, hs⟩ := Option.map_eq_some_iff.1 ht
  simp [loadVar, Sem.run_bind, hagg, sizeOf, typeInfo, hi, hs, hcells]
end Go.Proofs.YtjgcmmpfaemkiaaGreat
end
section
namespace Go.Proofs.YtjgcmmpfaemkiaaGreat.X
open Go.RowKit Go.Proofs.YtjgcmmpfaemkiaaGreatW.PrintWords Go.Proofs.YtjgcmmpfaemkiaaGreatW.PrintLast Go.Proofs.YtjgcmmpfaemkiaaGreatW.PrintMore
set_option linter.unusedVariables false
set_option linter.unusedSimpArgs false
theorem CellsAt.below {w w1 : World} {p : Addr} : ∀ (cs : List Value) (k : Nat), CellsAt w p k cs → Below w.heap.size w w1 → CellsAt w1 p k cs
  | [], _, _, _ => trivial
  | c :: cs, k, h, hb => ⟨(hb.cell (World.block_lt_of_cell? w _ h.1)).trans h.1, CellsAt.below cs (k + 1) h.2 hb⟩
def FirstAt (n : Nat) (p : Nat → Bool) (m : Int) : Prop := (m = -1 ∧ ∀ j, j < n → p j = false) ∨ ∃ i : Nat, m = i ∧ i < n ∧ p i = true ∧ ∀ j, j < i → p j = false
set_option maxRecDepth 100000 in
set_option maxHeartbeats 4000000 in
theorem indexFunc_against (A0 : Option Addr) (n c0 : Nat) (p : Nat → Bool) (gi gc : Nat) (w : World) (hn : n ≤ 1000000)
    (hel : ∀ j, j < n → ∃ ad v vs, A0 = some ad ∧ vs.length = 24 ∧ w.cell? (ad.add (j * 25)) = some v ∧ CellsAt w (ad.add (j * 25)) 1 vs ∧ ∀ w1, Below w.heap.size w w1 → Calls Tryz.prog 124 #[.agg (v :: vs).toArray, .pointer (some ⟨gi, 0, none⟩), .pointer (some ⟨gc, 0, none⟩)] w1 fun e w' => e = .returned (.bool (p j)) ∧ Below w1.heap.size w1 w') :
    Calls Tryz.prog 129 #[.slice A0 n c0, .func (.func 124) #[] #[.pointer (some ⟨gi, 0, none⟩), .pointer (some ⟨gc, 0, none⟩)]] w fun e w' => ∃ m : Int, e = .returned (.int .i64 m) ∧ FirstAt n p m ∧ Below w.heap.size w w' := by
  have HN := Lib.hid hn
  have HEL := Lib.hid hel
  clear hel hn
  go_enter Tryz.func129, Tryz.ntmps129
  go_wp2
  go_loopw [8] (fun i wr => ∃ j : Nat, j ≤ n ∧ i = .int .i64 j ∧ Hid (∀ t, t < j → p t = false) ∧ Hid (Below w.heap.size w wr)) (fun i _ => n - (intOf i).toNat)
  case atStart => exact ⟨0, by omega, rfl, Lib.hid (fun t ht => by omega), Lib.hid (Below.refl _ _)⟩
  case round =>
    obtain ⟨j, hj, rfl, hS, hw⟩ := hrel
    by_cases hlt : j < n
    · obtain ⟨ad, v, vs, hA, hl, hv, hvs, hcall⟩ := HEL.out j hlt
      subst hA
      have HV := Lib.hid ((hw.out.cell (World.block_lt_of_cell? w _ hv)).trans hv)
      have HVS := Lib.hid (CellsAt.below vs 1 hvs hw.out)
      have HC := Lib.hid (hcall wr hw.out)
      have HL := Lib.hid hl
      have hjn := HN.out
      clear hv hvs hcall hl
      go_wp2_with (first
        | ((with_reducible refine gate_dst (N := 15) rfl ?_); refine cells_load_event ?lg (N := 15) ?ld (t := 37) (x := ?lxx) ?lo (p := ?lpp) ?lx (v := v) (cs := vs) ?lD ?lt ?l0 ?lc ?_; (case lg => rfl); (case ld => rfl); (case lo => rfl); (case lx => first | rfl | (go_simp; done) | (go_simp; rfl)); (case lD => exact ⟨_, Tryz.underlying37, rfl⟩); (case lt => rw [HL.out]; kernel_rfl); (case l0 => exact HV.out); (case lc => exact HVS.out))
        | (go_at_call 124; refine HC.out.mono ?_; rintro e w' ⟨rfl, hb⟩; have HB := Lib.hid (below_step hw.out hb); clear hb; have HP := Lib.hid (rfl : p j = p j); generalize hpj : p j = b at HP ⊢; have HPJ := Lib.hid hpj; clear hpj; cases b))
      all_goals first
        | (go_ret; exact ⟨j, rfl, .inr ⟨j, rfl, hlt, HPJ.out, hS.out⟩, HB.out⟩)
        | exact ⟨⟨j + 1, by omega, by simp, Lib.hid (fun t ht => by
            rcases Nat.lt_succ_iff_lt_or_eq.1 ht with h | h
            · exact hS.out t h
            · rw [h]; exact HPJ.out), HB⟩, by simp [intOf]; omega⟩
    · go_wp2
      go_ret
      obtain rfl : j = n := by omega
      exact ⟨-1, rfl, .inl ⟨rfl, hS.out⟩, hw.out⟩
def keep (n : Nat) (p : Nat → Bool) : List Nat := (List.range n).filter (fun j => !p j)
theorem keep_le (n : Nat) (p : Nat → Bool) : (keep n p).length ≤ n := by
  have := List.length_filter_le (fun j => !p j) (List.range n)
  rw [List.length_range] at this
  exact this
theorem keep_succ (n : Nat) (p : Nat → Bool) : keep (n + 1) p = keep n p ++ (if p n = true then [] else [n]) := by
  unfold keep
  rw [List.range_succ, List.filter_append]
  cases h : p n <;> simp [h]
theorem keep_all {n : Nat} {p : Nat → Bool} (h : ∀ j, j < n → p j = false) : keep n p = List.range n := by
  unfold keep
  rw [List.filter_eq_self]
  intro j hj
  rw [h j (by simpa using hj)]; rfl
theorem flat_len (css : Nat → List Value) : ∀ l : List Nat, (∀ j ∈ l, (css j).length = 25) → (l.flatMap css).length = l.length * 25
  | [], _ => rfl
  | j :: l, h => by
    rw [List.flatMap_cons, List.length_append, h j (by simp), flat_len css l (fun i hi => h i (List.mem_cons_of_mem _ hi)), List.length_cons]; omega
theorem flat_take (cs : List Value) (css : Nat → List Value) : ∀ n, n * 25 ≤ cs.length → (∀ j, j < n → (cs.drop (j * 25)).take 25 = css j) → cs.take (n * 25) = (List.range n).flatMap css
  | 0, _, _ => by simp
  | n + 1, hl, h => by
    have ih := flat_take cs css n (by omega) (fun j hj => h j (by omega))
    rw [List.range_succ, List.flatMap_append, ← ih, show (n + 1) * 25 = n * 25 + 25 by omega, List.take_add, h n (by omega)]
    simp
theorem agg_store_event {P : Program} {ops : Array Oper} {rest : List Oper} {o : Oper} {a : Act} {Q : Exit → Act → World → Prop} {W : World} (hg : o.guard = none) (hd : o.dst = none) {t : TypeId} {x y : Operand} (ho : o.op = .store t x y) {b of : Nat} {cs : List Value}
    {cur : Array Value} {e : TypeId} (hx : a.eval x = .pointer (some ⟨b, of, none⟩)) (hy : a.eval y = .agg cs.toArray) (hb : W.heap[b]? = some (.cells cur e (0, 0))) (hfit : of + cs.length ≤ cur.size) (h1 : ∀ u ∈ cs, u.oneCell' = true) (ht : (P.info? t).map (·.size) = some cs.length)
    (h : ∀ w1 cur', w1.heap[b]? = some (.cells cur' e (0, 0)) → cur'.size = cur.size → cur'.toList = cur.toList.take of ++ cs ++ cur.toList.drop (of + cs.length) → W.grownBy w1 (some b) → wpList P ops Q rest a w1) : wpList P ops Q (o :: rest) a W := by
  obtain ⟨cur', h3, h4, h5⟩ := setCells_row cs of W cur hb hfit
  obtain ⟨s1, s2, s3, s4⟩ := setCells_same b cs of W
  refine wpList_plain hg fun K hK => ?_
  have hst := run_store_run (P := P) t (.agg cs.toArray) cs hb (by simp [Value.cells]) ht hfit h1
  unfold Oper.wp execOp
  simp only [ho, hx, hy, Sem.run_bind, Sem.run_pure, Result.andThen_ok, hst]
  show K (a.put o.dst undef) _
  rw [hd]
  exact hK _ _ (h _ _ h3 h4 h5 ⟨s1, s2, s3, by rw [s4]; exact Nat.le_refl _, fun k hk hne => setCells_far _ _ k (fun e => hne (by rw [e]))⟩)
theorem zeroCells_one {z : Value} {n : Nat} (hz : ∀ u ∈ z.cells.toList, u.oneCell' = true) (h0 : 0 < z.cells.size) : ∀ u ∈ (Builtin.zeroCells z.cells n).toList, u.oneCell' = true := by
  intro u hu
  unfold Builtin.zeroCells at hu
  simp only [Array.toList_map, List.mem_map] at hu
  obtain ⟨i, _, rfl⟩ := hu
  have hi : i % z.cells.size < z.cells.size := Nat.mod_lt _ h0
  rw [getElem!_pos z.cells _ hi]
  exact hz _ (Array.getElem_mem_toList hi)
theorem run_clear_row {P : Program} (w : World) (t e ty : TypeId) (z : Value) (ht : P.underlying t = some (.slice e)) (hv : ∀ w, (zeroValue e).run P w = .ok z w) (hz : ∀ u ∈ z.cells.toList, u.oneCell' = true) (hs : z.cells.size = 25) (b of n c : Nat) (hn : 0 < n)
    {cur : Array Value} {et : TypeId} (hb : w.heap[b]? = some (.cells cur et (0, 0))) (hfit : of + n * 25 ≤ cur.size) :
    ∃ w1 cur', (Builtin.clear_ #[t] ty #[.slice (some ⟨b, of, none⟩) n c]).run P w = .ok (.tuple #[]) w1 ∧ w1.heap[b]? = some (.cells cur' et (0, 0)) ∧ cur'.size = cur.size ∧ cur'.toList.take of = cur.toList.take of ∧ w.grownBy w1 (some b) := by
  have hl : (Builtin.zeroCells z.cells n).toList.length = n * 25 := by simp [Builtin.zeroCells, hs]
  have h1 := zeroCells_one (n := n) hz (by omega)
  obtain ⟨cur', h3, h4, h5⟩ := setCells_row (Builtin.zeroCells z.cells n).toList of w cur hb (by rw [hl]; exact hfit)
  obtain ⟨s1, s2, s3, s4⟩ := setCells_same b (Builtin.zeroCells z.cells n).toList of w
  have hst := run_storeCells_cells (P := P) b of (Builtin.zeroCells z.cells n).toList 0 w (fun j hj => by rw [cell_of_row w b _ cur et (0, 0) hb]; simp; omega) (fun j _ => blk_frozen hb _) h1
  simp only [Nat.add_zero] at hst
  obtain ⟨m, rfl⟩ : ∃ m, n = m + 1 := ⟨n - 1, by omega⟩
  refine ⟨_, cur', ?_, h3, h4, ?_, ⟨s1, s2, s3, by rw [s4]; exact Nat.le_refl _, fun k hk hne => setCells_far _ _ k (fun e => hne (by rw [e]))⟩⟩
  · simp [Builtin.clear_, run_underlying ht, hv, hst]
  · rw [h5, List.append_assoc, List.take_append_of_le_length (by rw [List.length_take, Array.length_toList]; omega), List.take_take, Nat.min_self]
theorem grown_trans {w w1 w2 : World} {r : Option Nat} (h : w.grownBy w1 r) (k : w1.grownBy w2 r) : w.grownBy w2 r :=
  ⟨k.os.trans h.os, k.tape.trans h.tape, k.output.trans h.output, Nat.le_trans h.size k.size, fun i hi hne => (k.block i (Nat.lt_of_lt_of_le hi h.size) hne).trans (h.block i hi hne)⟩
theorem grown_below {w w1 : World} {r : Option Nat} (h : Below w.heap.size w w1) : w.grownBy w1 r := ⟨h.os, h.tape, h.output, h.size, fun i hi _ => h.block i hi⟩
theorem row_at {W : World} {b : Nat} {cur : Array Value} {e : TypeId} (hb : W.heap[b]? = some (.cells cur e (0, 0))) (o : Nat) (cs : List Value) (h : (cur.toList.drop o).take 25 = cs) : ∀ j u, cs[j]? = some u → W.cell? ⟨b, o + j, none⟩ = some u := by
  intro j u hu
  subst h
  rw [cell_of_row W b _ cur e (0, 0) hb]
  rw [List.getElem?_take] at hu
  split at hu
  · rw [List.getElem?_drop] at hu
    rw [← Array.getElem?_toList]; exact hu
  · cases hu
theorem cellsAt_of {W : World} {b o : Nat} : ∀ (cs : List Value) (k : Nat), (∀ j u, cs[j]? = some u → W.cell? ⟨b, o + (k + j), none⟩ = some u) → CellsAt W ⟨b, o, none⟩ k cs
  | [], _, _ => trivial
  | c :: cs, k, h => ⟨by have := h 0 c (by simp); simpa using this, cellsAt_of cs (k + 1) (fun j u hu => by
      have := h (j + 1) u (by simpa using hu)
      rwa [show k + (j + 1) = k + 1 + j by omega] at this)⟩
theorem addr_plain_add (b o j : Nat) : (⟨b, o, none⟩ : Addr).add j = ⟨b, o + j, none⟩ := by unfold Addr.add; split <;> simp_all
def MovedTo (css : Nat → List Value) (p : Nat → Bool) (n b : Nat) (cur : Array Value) (j : Nat) (W : World) : Prop :=
  ∃ cur' : Array Value, W.heap[b]? = some (.cells cur' 37 (0, 0)) ∧ cur'.size = cur.size ∧ cur'.toList.take ((keep j p).length * 25) = (keep j p).flatMap css ∧ ∀ t, j ≤ t → t < n → (cur'.toList.drop (t * 25)).take 25 = css t
theorem MovedTo.below {css : Nat → List Value} {p : Nat → Bool} {n b : Nat} {cur : Array Value} {j : Nat} {W W1 : World} (h : MovedTo css p n b cur j W) (hb : Below W.heap.size W W1) : MovedTo css p n b cur j W1 := by
  obtain ⟨cur', h1, h2, h3, h4⟩ := h
  exact ⟨cur', blk_below h1 hb, h2, h3, h4⟩
theorem MovedTo.drop {css : Nat → List Value} {p : Nat → Bool} {n b : Nat} {cur : Array Value} {j : Nat} {W : World} (h : MovedTo css p n b cur j W) (hp : p j = true) : MovedTo css p n b cur (j + 1) W := by
  obtain ⟨cur', h1, h2, h3, h4⟩ := h
  refine ⟨cur', h1, h2, ?_, fun t ht htn => h4 t (by omega) htn⟩
  rw [keep_succ, if_pos hp, List.append_nil]; exact h3
theorem MovedTo.move {css : Nat → List Value} {p : Nat → Bool} {n b : Nat} {cur : Array Value} {j : Nat} {W1 : World} {cur' cur'' : Array Value} (h2 : cur'.size = cur.size) (h3 : cur'.toList.take ((keep j p).length * 25) = (keep j p).flatMap css) (h4 : ∀ t, j ≤ t → t < n → (cur'.toList.drop (t * 25)).take 25 = css t)
    (hp : p j = false) (hq : (keep j p).length < j) (hl : (css j).length = 25) (hsz : j * 25 + 25 ≤ cur.size)
    (k1 : W1.heap[b]? = some (.cells cur'' 37 (0, 0))) (k2 : cur''.size = cur'.size) (k3 : cur''.toList = cur'.toList.take ((keep j p).length * 25) ++ css j ++ cur'.toList.drop ((keep j p).length * 25 + (css j).length)) : MovedTo css p n b cur (j + 1) W1 := by
  have hlen : cur'.toList.length = cur.size := by rw [Array.length_toList, h2]
  have ht : (cur'.toList.take ((keep j p).length * 25)).length = (keep j p).length * 25 := by rw [List.length_take, hlen]; omega
  refine ⟨cur'', k1, k2.trans h2, ?_, fun t htj htn => ?_⟩
  · rw [keep_succ, if_neg (by rw [hp]; simp), List.length_append, List.length_singleton, List.flatMap_append, k3, ← h3]
    rw [show ((keep j p).length + 1) * 25 = (cur'.toList.take ((keep j p).length * 25) ++ css j).length by rw [List.length_append, ht, hl]; omega, List.take_left]
    simp
  · rw [k3, hl]
    rw [show t * 25 = (cur'.toList.take ((keep j p).length * 25) ++ css j).length + (t * 25 - ((keep j p).length * 25 + 25)) by rw [List.length_append, ht, hl]; omega, List.drop_append, List.drop_drop]
    rw [show (cur'.toList.take ((keep j p).length * 25) ++ css j).length = (keep j p).length * 25 + 25 by rw [List.length_append, ht, hl]]
    rw [List.drop_eq_nil_of_le (by rw [List.length_append, ht, hl]; omega), List.nil_append]
    rw [show (keep j p).length * 25 + 25 + ((keep j p).length * 25 + 25 + (t * 25 - ((keep j p).length * 25 + 25)) - ((keep j p).length * 25 + 25)) = t * 25 by omega]
    exact h4 t (by omega) htn
def zeroRec : Value := .agg #[.int .i64 0, .int .i64 0, .int .i64 0, .int .i64 0, .int .i64 0, .int .i64 0, .int .i64 0, .int .i64 0, .int .i64 0, .int .i64 0, .int .i64 0, .int .i64 0, .int .i64 0, .slice none 0 0, .slice none 0 0, .bool false, .int .i64 0, .int .i64 0, .int .i64 0, .int .i64 0, .int .i64 0, .int .i64 0, .int .i64 0, .int .i64 0, .bool false]
theorem zeroRec_run (w : World) : (zeroValue 37).run Tryz.prog w = .ok zeroRec w := by kernel_rfl
theorem MovedTo.move' {css : Nat → List Value} {p : Nat → Bool} {n b q : Nat} {cur : Array Value} {j : Nat} {W W1 : World} (hq : q = (keep j p).length) (hmv : MovedTo css p n b cur j W)
    (hp : p j = false) (hqj : q < j) (hl : (css j).length = 25) (hsz : j * 25 + 25 ≤ cur.size)
    (hk : ∀ cur' : Array Value, W.heap[b]? = some (.cells cur' 37 (0, 0)) → ∃ cur'' : Array Value, W1.heap[b]? = some (.cells cur'' 37 (0, 0)) ∧ cur''.size = cur'.size ∧ cur''.toList = cur'.toList.take (q * 25) ++ css j ++ cur'.toList.drop (q * 25 + (css j).length)) : MovedTo css p n b cur (j + 1) W1 := by
  subst hq
  obtain ⟨cur', h1, h2, h3, h4⟩ := hmv
  obtain ⟨cur'', k1, k2, k3⟩ := hk cur' h1
  exact MovedTo.move h2 h3 h4 hp hqj hl hsz k1 k2 k3
theorem grown_block {w w1 : World} {b : Nat} (h : w.grownBy w1 (some b)) : w.heap.size ≤ w1.heap.size := h.size
set_option maxRecDepth 100000 in
set_option maxHeartbeats 8000000 in
theorem deleteFunc_any (b n c : Nat) (cur : Array Value) (css : Nat → List Value) (p : Nat → Bool) (gi gc : Nat) (w : World)
    (hb : w.heap[b]? = some (.cells cur 37 (0, 0))) (hsz : cur.size = c * 25) (hn : n ≤ c) (hmax : n ≤ 1000000)
    (hcell : ∀ j, j < n → (cur.toList.drop (j * 25)).take 25 = css j) (hone : ∀ j, j < n → ∀ u ∈ css j, u.oneCell' = true)
    (hcall : ∀ j, j < n → ∀ w1, w.grownBy w1 (some b) → Calls Tryz.prog 124 #[.agg (css j).toArray, .pointer (some ⟨gi, 0, none⟩), .pointer (some ⟨gc, 0, none⟩)] w1 fun e w' => e = .returned (.bool (p j)) ∧ Below w1.heap.size w1 w') :
    Calls Tryz.prog 122 #[.slice (some ⟨b, 0, none⟩) n c, .func (.func 124) #[] #[.pointer (some ⟨gi, 0, none⟩), .pointer (some ⟨gc, 0, none⟩)]] w fun e w' => ∃ cur' : Array Value, e = .returned (.slice (some ⟨b, 0, none⟩) (keep n p).length c) ∧ w'.heap[b]? = some (.cells cur' 37 (0, 0)) ∧ cur'.size = cur.size ∧ cur'.toList.take ((keep n p).length * 25) = (keep n p).flatMap css ∧ w.grownBy w' (some b) := by
  have hblt : b < w.heap.size := blk_lt hb
  have hlen : ∀ j, j < n → (css j).length = 25 := fun j hj => by rw [← hcell j hj, List.length_take, List.length_drop, Array.length_toList]; omega
  have HI := Lib.hid (indexFunc_against (some ⟨b, 0, none⟩) n c p gi gc w hmax (fun j hj => by
    have h25 := hlen j hj
    have hrow := row_at hb (j * 25) (css j) (hcell j hj)
    have hc := hcall j hj
    cases hcs : css j with
    | nil => rw [hcs] at h25; simp at h25
    | cons v vs =>
      rw [hcs] at h25 hrow hc
      refine ⟨⟨b, 0, none⟩, v, vs, rfl, by simpa using h25, ?_, ?_, fun w1 hw1 => hc w1 (grown_below hw1)⟩
      · rw [addr_plain_add]
        have := hrow 0 v (by simp)
        simpa using this
      · rw [addr_plain_add]
        refine cellsAt_of vs 1 fun i u hu => ?_
        have := hrow (i + 1) u (by simpa using hu)
        rwa [show 0 + j * 25 + (1 + i) = j * 25 + (i + 1) by omega]))
  have HB := Lib.hid hb
  have HSZ := Lib.hid hsz
  have HCELL := Lib.hid hcell
  have HLEN := Lib.hid hlen
  have HONE := Lib.hid hone
  have HCALL := Lib.hid hcall
  have HBL := Lib.hid hblt
  clear hb hsz hcell hlen hone hcall hblt
  go_enter Tryz.func122, Tryz.ntmps122
  go_upto_if 12 with (go_at_call 129; refine HI.out.mono ?_; rintro e w0 ⟨m, rfl, hm, hb0⟩; have HM := Lib.hid hm; have HB0 := Lib.hid hb0; clear hm hb0)
  rcases HM.out with ⟨rfl, hall⟩ | ⟨i, rfl, hi, hp, hlt⟩
  · have HA := Lib.hid hall
    clear hall HM
    go_wp2
    go_ret
    have e := keep_all HA.out
    refine ⟨cur, ?_, blk_below HB.out HB0.out, rfl, ?_, grown_below HB0.out⟩
    · rw [e, List.length_range]; first | done | rfl
    · rw [e, List.length_range]
      exact flat_take cur.toList css n (by rw [Array.length_toList, HSZ.out]; omega) HCELL.out
  · have hne : ((i : Int) == -1) = false := by first | (simp; done) | (simp; omega)
    have HP := Lib.hid hp
    have HLT := Lib.hid hlt
    clear hp hlt HM
    have e0 : keep (i + 1) p = List.range i := by rw [keep_succ, if_pos HP.out, List.append_nil, keep_all HLT.out]
    have E0 := Lib.hid e0
    clear e0
    rw [hne]
    go_wp2
    go_loopw [5, 6] (fun x y wr => ∃ q j : Nat, x = .int .i64 q ∧ y = .int .i64 j ∧ j ≤ n ∧ q < j ∧ Hid (q = (keep j p).length) ∧ Hid (MovedTo css p n b cur j wr) ∧ Hid (w.grownBy wr (some b))) (fun _ y _ => n - (intOf y).toNat)
    case atStart =>
      refine ⟨i, i + 1, rfl, by simp, by omega, by omega, Lib.hid (by rw [E0.out, List.length_range]), Lib.hid ⟨cur, blk_below HB.out HB0.out, rfl, ?_, fun t _ ht => HCELL.out t ht⟩, Lib.hid (grown_below HB0.out)⟩
      rw [E0.out, List.length_range]
      exact flat_take cur.toList css i (by rw [Array.length_toList, HSZ.out]; omega) (fun j hj => HCELL.out j (by omega))
    case round =>
      obtain ⟨q, j, rfl, rfl, hjn, hqj, HQ, HMV, HG⟩ := hrel
      by_cases hlt : j < n
      · have hl25 := HLEN.out j hlt
        have hone := HONE.out j hlt
        have hcall := HCALL.out j hlt
        obtain ⟨cur1, m1, m2, m3, m4⟩ := HMV.out
        have hrow := row_at m1 (j * 25) (css j) (m4 j (Nat.le_refl _) hlt)
        have hfit : q * 25 + 25 ≤ cur.size := by rw [HSZ.out]; omega
        have hfit2 : j * 25 + 25 ≤ cur.size := by rw [HSZ.out]; omega
        cases hcs : css j with
        | nil => rw [hcs] at hl25; simp at hl25
        | cons v vs =>
          have HCS := Lib.hid hcs
          rw [hcs] at hl25 hone hcall hrow
          have HL : Hid (vs.length = 24) := Lib.hid (by simpa using hl25)
          have HO : Hid ((v :: vs).all (fun q => q.oneCell') = true) := Lib.hid (List.all_eq_true.2 hone)
          have HV : Hid (wr.cell? ⟨b, j * 25, none⟩ = some v) := Lib.hid (by have := hrow 0 v (by simp); simpa using this)
          have HVS : Hid (CellsAt wr ⟨b, j * 25, none⟩ 1 vs) := Lib.hid (cellsAt_of vs 1 fun i u hu => by
            have := hrow (i + 1) u (by simpa using hu)
            rwa [show j * 25 + (1 + i) = j * 25 + (i + 1) by omega])
          have HK := Lib.hid hcall
          have HF := Lib.hid hfit
          have HF2 := Lib.hid hfit2
          clear hl25 hone hcall hrow hcs m1 m2 m3 m4 cur1 hfit hfit2
          go_wp2_with (first
            | ((with_reducible refine gate_dst (N := 25) rfl ?_); refine cells_load_event ?lg (N := 25) ?ld (t := 37) (x := ?lxx) ?lo (p := ?lpp) ?lx (v := v) (cs := vs) ?lD ?lt ?l0 ?lc ?_; (case lg => rfl); (case ld => rfl); (case lo => rfl); (case lx => first | rfl | (go_simp; done) | (go_simp; rfl)); (case lD => exact ⟨_, Tryz.underlying37, rfl⟩); (case lt => rw [HL.out]; kernel_rfl); (case l0 => exact HV.out); (case lc => exact HVS.out))
            | ((with_reducible refine gate_dst (N := 7) rfl ?_); refine alloc_store_event ?hg1 (N := 7) ?hd1 ?hg2 ?hd2 ?ho2 (cs0 := #[.int .i64 0, .int .i64 0, .int .i64 0, .int .i64 0, .int .i64 0, .int .i64 0, .int .i64 0, .int .i64 0, .int .i64 0, .int .i64 0, .int .i64 0, .int .i64 0, .int .i64 0, .slice none 0 0, .slice none 0 0, .bool false, .int .i64 0, .int .i64 0, .int .i64 0, .int .i64 0, .int .i64 0, .int .i64 0, .int .i64 0, .int .i64 0, .bool false]) (cs := (v :: vs).toArray) (t := 37) (x := ?xxd) ?hr ?hp ?hx ?hs ?h1 ?ht ?_; (case hg1 => rfl); (case hd1 => rfl); (case hg2 => rfl); (case hd2 => rfl); (case ho2 => rfl); (case hr => first | (go_simp; done) | (go_simp; rfl)); (case hp => rfl); (case hx => rfl); (case hs => rw [List.size_toArray, List.length_cons, HL.out]; rfl); (case h1 => exact HO.out); (case ht => rw [List.size_toArray, List.length_cons, HL.out]; kernel_rfl); intro gv hg w1 hbox hb; have HG1 := Lib.hid (grown_trans HG.out (grown_below hb)); have HMV1 := Lib.hid (HMV.out.below hb); have BKV := Lib.hid hbox; clear hg hbox hb)
            | ((with_reducible refine gate_dst (N := 27) rfl ?_); refine blk_load_event ?lg2 (N := 27) ?ld2 (t := 37) (x := ?lxx2) ?lo2 (g := gv) ?lx2 (cs := _) BKV.out ?lD2 ?lt2 ?_; (case lg2 => rfl); (case ld2 => rfl); (case lo2 => rfl); (case lx2 => first | rfl | (go_simp; done) | (go_simp; rfl)); (case lD2 => exact ⟨_, Tryz.underlying37, rfl⟩); (case lt2 => rw [List.size_toArray, List.length_cons, HL.out]; kernel_rfl))
            | (go_at_call 124; refine (HK.out _ HG1.out).mono ?_; rintro e w2 ⟨rfl, hb2⟩; have HG2 := Lib.hid (grown_trans HG1.out (grown_below hb2)); have HMV2 := Lib.hid (HMV1.out.below hb2); have BKV2 := Lib.hid (blk_below BKV.out hb2); clear hb2; have HP0 := Lib.hid (rfl : p j = p j); generalize hpj : p j = pb at HP0 ⊢; have HPJ := Lib.hid hpj; clear hpj HP0; cases pb)
            | ((with_reducible refine gate_dst (N := 32) rfl ?_); refine blk_load_event ?lg3 (N := 32) ?ld3 (t := 37) (x := ?lxx3) ?lo3 (g := gv) ?lx3 (cs := _) BKV2.out ?lD3 ?lt3 ?_; (case lg3 => rfl); (case ld3 => rfl); (case lo3 => rfl); (case lx3 => first | rfl | (go_simp; done) | (go_simp; rfl)); (case lD3 => exact ⟨_, Tryz.underlying37, rfl⟩); (case lt3 => rw [List.size_toArray, List.length_cons, HL.out]; kernel_rfl); obtain ⟨curS, s1, s2, s3, s4⟩ := HMV2.out; have S1 := Lib.hid s1; have S2 := Lib.hid s2; clear s1 s2 s3 s4)
            | ((with_reducible refine agg_store_event (o := { dst := none, op := _, type := _, pos := _, after := _, guard := none }) rfl rfl (x := .tmp 33) (y := .tmp 32) (t := 37) ?so (b := b) (of := q * 25) (cs := v :: vs) (cur := curS) (e := 37) ?sx ?sy S1.out ?sf ?s1 ?st ?_); (case so => rfl); (case sx => first | rfl | (go_simp; done) | (go_simp; rfl)); (case sy => first | rfl | (go_simp; done) | (go_simp; rfl)); (case sf => rw [List.length_cons, HL.out, S2.out]; exact HF.out); (case s1 => exact List.all_eq_true.1 HO.out); (case st => rw [List.length_cons, HL.out]; kernel_rfl); intro w3 cur3 k1 k2 k3 kg; have HG3 := Lib.hid (grown_trans HG2.out kg); have HMV3 : Hid (MovedTo css p n b cur (j + 1) w3) := Lib.hid (MovedTo.move' HQ.out HMV2.out HPJ.out hqj (by rw [HCS.out, List.length_cons, HL.out]) HF2.out (fun cur' hcur' => by rw [S1.out] at hcur'; injection hcur' with e1; injection e1 with e2 _ _; subst e2; exact ⟨cur3, k1, k2, by rw [HCS.out]; exact k3⟩)); clear k1 k2 k3 kg))
          · go_roundw
            case rel => exact ⟨q + 1, j + 1, by simp, by simp, by omega, by omega, Lib.hid (by rw [keep_succ, if_neg (by rw [HPJ.out]; simp), List.length_append, ← HQ.out]; rfl), HMV3, HG3⟩
            case measure => simp [intOf]; omega
          · go_roundw
            case rel => exact ⟨q, j + 1, by simp, by simp, by omega, by omega, Lib.hid (by rw [keep_succ, if_pos HPJ.out, List.append_nil]; exact HQ.out), Lib.hid (HMV2.out.drop HPJ.out), HG2⟩
            case measure => simp [intOf]; omega
      · have hq := HQ.out
        obtain rfl : j = n := by omega
        obtain ⟨cur1, m1, m2, m3, m4⟩ := HMV.out
        obtain ⟨w1, cur2, hrun, k1, k2, k3, kg⟩ := run_clear_row (P := Tryz.prog) wr 41 37 0 zeroRec Tryz.underlying41 zeroRec_run (by decide) (by decide) b (q * 25) (j - q) (c - q) (by omega) m1 (by rw [m2, HSZ.out]; omega)
        have HRUN := Lib.hid hrun
        have M2 := Lib.hid m2
        have M3 := Lib.hid m3
        have K1 := Lib.hid k1
        have K2 := Lib.hid k2
        have K3 := Lib.hid k3
        have KG := Lib.hid kg
        clear hrun m1 m2 m3 m4 k1 k2 k3 kg hq
        go_wp2
        rw [HRUN.out]
        go_wp2
        go_ret
        refine ⟨cur2, ?_, K1.out, K2.out.trans M2.out, ?_, grown_trans HG.out KG.out⟩
        · rw [← HQ.out]; first | done | rfl
        · rw [← HQ.out, K3.out, HQ.out]; exact M3.out
set_option maxRecDepth 100000 in
set_option maxHeartbeats 4000000 in
theorem deleteFunc_none (gi gc : Nat) (w : World) :
    Calls Tryz.prog 122 #[.slice none 0 0, .func (.func 124) #[] #[.pointer (some ⟨gi, 0, none⟩), .pointer (some ⟨gc, 0, none⟩)]] w fun e w' => e = .returned (.slice none 0 0) ∧ Below w.heap.size w w' := by
  have HI := Lib.hid (indexFunc_against none 0 0 (fun _ => false) gi gc w (by omega) (fun j hj => by omega))
  go_enter Tryz.func122, Tryz.ntmps122
  go_wp2_with (go_at_call 129; refine HI.out.mono ?_; rintro e w0 ⟨m, rfl, hm, hb0⟩; obtain rfl : m = -1 := (by rcases hm with ⟨h, _⟩ | ⟨i, _, hi, _⟩; exact h; omega); have HB0 := Lib.hid hb0; clear hm hb0)
  go_ret
  exact ⟨rfl, HB0.out⟩
end Go.Proofs.YtjgcmmpfaemkiaaGreat.X
end
section
namespace Go.Proofs.YtjgcmmpfaemkiaaGreat.V
open Go.Vm Go.RowKit Go.Proofs.YtjgcmmpfaemkiaaGreatW.PrintWords Go.Proofs.YtjgcmmpfaemkiaaGreatW.PrintLast Go.Proofs.YtjgcmmpfaemkiaaGreatW.PrintMore
open Go.Proofs.YtjgcmmpfaemkiaaGreat.X (keep keep_le keep_succ deleteFunc_any deleteFunc_none)
set_option linter.unusedVariables false
set_option linter.unusedSimpArgs false
def filt {α : Type} (p : α → Option Bool) : List α → Option (List α)
  | [] => some []
  | x :: l => (p x).bind fun b => (filt p l).bind fun r => some (bif b then r else x :: r)
theorem keep_cons (n : Nat) (p : Nat → Bool) : keep (n + 1) p = (if p 0 = true then [] else [0]) ++ (keep n (fun j => p (j + 1))).map (· + 1) := by
  unfold keep
  rw [List.range_succ_eq_map, List.filter_cons, List.filter_map]
  cases h : p 0 <;> simp [h, Function.comp_def]
theorem filt_some {α : Type} (d : α) (p : α → Option Bool) : ∀ (xs ys : List α), filt p xs = some ys → ∃ q : Nat → Bool, (∀ j x, xs[j]? = some x → p x = some (q j)) ∧ ys = (keep xs.length q).map (fun j => xs.getD j d)
  | [], ys, h => ⟨fun _ => false, fun j x hj => by simp at hj, by simp only [filt, Option.some.injEq] at h; subst h; rfl⟩
  | x :: xs, ys, h => by
    simp only [filt] at h
    cases hp : p x with
    | none => rw [hp] at h; cases h
    | some b =>
      rw [hp] at h
      simp only [Option.bind_some] at h
      cases hf : filt p xs with
      | none => rw [hf] at h; cases h
      | some r =>
        rw [hf] at h
        simp only [Option.bind_some, Option.some.injEq] at h
        obtain ⟨q, hq, hr⟩ := filt_some d p xs r hf
        refine ⟨fun j => match j with | 0 => b | j + 1 => q j, fun j y hj => ?_, ?_⟩
        · cases j with
          | zero => have : x = y := by simpa using hj
                    subst this; exact hp
          | succ j => exact hq j y (by simpa using hj)
        · rw [List.length_cons, keep_cons, List.map_append, List.map_map, ← h]
          cases b
          · simp [hr, Function.comp_def]
          · simp [hr, Function.comp_def]
theorem RelL_row {α : Type} {R : α → List Value → Prop} {n : Nat} (h : ∀ y c, R y c → c.length = n) {ys : List α} {cs : List Value} (hr : RelL R ys cs) {j : Nat} {y : α} (hj : ys[j]? = some y) : R y ((cs.drop (j * n)).take n) := by
  obtain ⟨a, c, b, rfl, ha, hy, _⟩ := hr.at_ h hj
  have hc := h _ _ hy
  have : ((a ++ c ++ b).drop (j * n)).take n = c := by
    rw [List.append_assoc, ← ha, List.drop_left, ← hc, List.take_left]
  rw [this]; exact hy
theorem RelL_pick {α : Type} {R : α → List Value → Prop} (f : Nat → α) (g : Nat → List Value) : ∀ l : List Nat, (∀ j ∈ l, R (f j) (g j)) → RelL R (l.map f) (l.flatMap g)
  | [], _ => rfl
  | j :: l, h => ⟨g j, l.flatMap g, rfl, h j (by simp), RelL_pick f g l (fun i hi => h i (List.mem_cons_of_mem _ hi))⟩
noncomputable def index_Against (k : Nat) (l : List Ty_api_Record.den) (i : Ty_api_Instance.den) (c : Ty_api_Command.den) : Option (List Ty_api_Record.den) :=
  (index_Known k l).bind fun xs => bif decide (xs.length ≤ 1000000) then filt (fun x => index_Against_1 k x i c) xs else none
noncomputable def index_Against.spec (k : Nat) : Go.Vm.Spec := .pu [.val (.sl 37 Ty_api_Record), .val Ty_api_Instance, .val Ty_api_Command] (.sl 37 Ty_api_Record) (index_Against k)
theorem inst_cells {w : World} {S : Nat → Prop} {x : Ty_api_Instance.den} {cs : List Value} (h : RelC w S Ty_api_Instance x cs) : cs = [.int .i64 x.1, .int .i64 x.2] := by
  obtain ⟨a, b, rfl, rfl, rfl⟩ := h
  rfl
theorem cmd_cells {w : World} {S : Nat → Prop} {x : Ty_api_Command.den} {cs : List Value} (h : RelC w S Ty_api_Command x cs) : ∃ A n c A' n' c', cs = [.int .i64 x.1, .int .i64 x.2.1.1, .int .i64 x.2.1.2, .int .i64 x.2.2.1.1, .int .i64 x.2.2.1.2, .int .i64 x.2.2.2.1, .slice A n c, .slice A' n' c', .bool x.2.2.2.2.2.2] := by
  obtain ⟨_, _, rfl, rfl, _, _, rfl, h1, _, _, rfl, h2, _, _, rfl, rfl, _, _, rfl, ⟨A, c, rfl, _⟩, _, _, rfl, ⟨A', c', rfl, _⟩, rfl⟩ := h
  rw [inst_cells h1, inst_cells h2]
  exact ⟨A, _, c, A', _, c', rfl⟩
theorem against1_call {k : Nat} {x : Ty_api_Record.den} {i : Ty_api_Instance.den} {c : Ty_api_Command.den} {b : Bool} (hb : index_Against_1 k x i c = some b) {w : World} {S S1 : Nat → Prop} (h01 : ∀ b, S b → S1 b) (hlt : ∀ b, S1 b → b < w.heap.size) {gi gc : Nat} {cs ci cc : Array Value} {ti tc : TypeId}
    (hgi : S1 gi) (hgc : S1 gc) (hi : w.heap[gi]? = some (.cells ci ti (0, 0))) (hc : w.heap[gc]? = some (.cells cc tc (0, 0)))
    (hx : RelC w S Ty_api_Record x cs.toList) (hri : RelC w S1 Ty_api_Instance i ci.toList) (hrc : RelC w S1 Ty_api_Command c cc.toList) :
    Calls Tryz.prog 124 #[.agg cs, .pointer (some ⟨gi, 0, none⟩), .pointer (some ⟨gc, 0, none⟩)] w fun e w' => e = .returned (.bool b) ∧ Below w.heap.size w w' := by
  have at0 : ∀ (g j : Nat), ((⟨g, 0, none⟩ : Addr).add j) = ⟨g, j, none⟩ := fun g j => by unfold Addr.add; split <;> simp_all
  have hok := ok_index_Against_1 k 124 (.pu index_Against_1.ps index_Against_1.r (index_Against_1 k)) (by unfold G_index_Against_1 ins; rfl)
  refine (hok.2 w S S1 (x, i, c, ()) [.agg cs, .pointer (some ⟨gi, 0, none⟩), .pointer (some ⟨gc, 0, none⟩)] b h01 hlt ⟨_, _, rfl, ⟨cs, rfl, hx⟩, _, _, rfl, rfl, ⟨⟨gi, 0, none⟩, ci.toList, rfl, hgi, hri, ?_⟩, _, _, rfl, rfl, ⟨⟨gc, 0, none⟩, cc.toList, rfl, hgc, hrc, ?_⟩, rfl⟩ hb).mono ?_
  · intro j u hu
    rw [at0, blk_cell hi, ← Array.getElem?_toList]; exact hu
  · intro j u hu
    rw [at0, blk_cell hc, ← Array.getElem?_toList]; exact hu
  · rintro e w' ⟨v, rfl, hv, hB⟩
    have : v = .bool b := by simpa [RelD, RelV1, RelC] using hv
    exact ⟨by rw [this], hB⟩
set_option maxRecDepth 100000 in
set_option maxHeartbeats 8000000 in
theorem delete_own {k : Nat} {xs ys : List Ty_api_Record.den} {i : Ty_api_Instance.den} {c : Ty_api_Command.den} (hn : xs.length ≤ 1000000) (hf : filt (fun x => index_Against_1 k x i c) xs = some ys) {w : World} {base : Nat} {S1 S' : Nat → Prop} {v : Value} {inner : List Value}
    (ho : w.ownsRow base 37 Ty_api_Record.size v xs.length inner) (hr : RelL (RelC w S' Ty_api_Record) xs inner) (hno : ∀ g, v.ownBlock = some g → ¬ S' g) (hS' : ∀ b, S' b → b < w.heap.size) (hS1 : ∀ b, S1 b → b < base)
    (hbase : base ≤ w.heap.size) {gi gc : Nat} {ci cc : Array Value} {ti tc : TypeId} (hgi : S1 gi) (hgc : S1 gc) (hi : w.heap[gi]? = some (.cells ci ti (0, 0))) (hc : w.heap[gc]? = some (.cells cc tc (0, 0)))
    (hri : RelC w S1 Ty_api_Instance i ci.toList) (hrc : RelC w S1 Ty_api_Command c cc.toList) :
    Calls Tryz.prog 122 #[v, .func (.func 124) #[] #[.pointer (some ⟨gi, 0, none⟩), .pointer (some ⟨gc, 0, none⟩)]] w fun e w' => ∃ v', e = .returned v' ∧ RelC w' (fun b => S' b ∨ (base ≤ b ∧ b < w'.heap.size)) (.sl 37 Ty_api_Record) ys [v'] ∧ Below base w w' := by
  obtain ⟨q, hq, hys⟩ := filt_some Ty_api_Record.zero _ xs ys hf
  have hsz : Ty_api_Record.size = 25 := rfl
  obtain ⟨hl, ho⟩ := ho
  rcases ho with ⟨rfl, hz⟩ | ⟨g, cap, cur, rfl, hg, hh, hle, hm, hs, ht⟩
  · refine (deleteFunc_none gi gc w).mono ?_
    rintro e w' ⟨rfl, hb⟩
    have hx0 := List.eq_nil_of_length_eq_zero hz
    subst hx0
    simp only [filt, Option.some.injEq] at hf
    subst hf
    exact ⟨_, rfl, ⟨none, 0, rfl, Nat.le_refl _, fun h => absurd h (Nat.lt_irrefl 0)⟩, ⟨hb.os, hb.tape, hb.output, hb.size, fun b hb' => hb.block b (by omega)⟩⟩
  · have hno' : ¬ S' g := hno g rfl
    have hrow : ∀ j x, xs[j]? = some x → RelC w S' Ty_api_Record x ((cur.toList.drop (j * 25)).take 25) := fun j x hj => by
      have := RelL_row (n := 25) (fun y c h => h.len) hr hj
      have hjl : j < xs.length := (List.getElem?_eq_some_iff.1 hj).1
      rw [← ht, hsz, List.drop_take, List.take_take, Nat.min_eq_left (by omega)] at this
      exact this
    have hzx : ∀ j, j < xs.length → xs[j]? = some (xs.getD j Ty_api_Record.zero) := fun j hj => by
      rw [List.getElem?_eq_getElem hj]; simp [List.getD_eq_getElem?_getD, hj]
    refine (deleteFunc_any g xs.length cap cur (fun j => (cur.toList.drop (j * 25)).take 25) q gi gc w hh hs hle hn (fun _ _ => rfl) (fun j hj u hu => (hrow j _ (hzx j hj)).one u hu) (fun j hj w1 hw1 => ?_)).mono ?_
    · have hgb := blk_lt hh
      have same : ∀ b, b < base → w1.heap[b]? = w.heap[b]? := fun b hb => hw1.block b (by omega) (fun e => by have := Option.some.inj e; omega)
      have sameS : SameOn S' w w1 := fun b hb => hw1.block b (hS' b hb) (fun e => by have := Option.some.inj e; subst this; exact hno' hb)
      have same1 : SameOn S1 w w1 := fun b hb => same b (hS1 b hb)
      refine against1_call (S := S') (S1 := fun b => S' b ∨ S1 b) (hq j _ (hzx j hj)) (fun b hb => .inl hb) (fun b hb => ?_) (.inr hgi) (.inr hgc) ((same gi (hS1 gi hgi)).trans hi) ((same gc (hS1 gc hgc)).trans hc) (by simpa using (hrow j _ (hzx j hj)).move sameS (fun b hb => hb)) (hri.move same1 (fun b hb => .inr hb)) (hrc.move same1 (fun b hb => .inr hb))
      rcases hb with hb | hb
      · exact Nat.lt_of_lt_of_le (hS' b hb) hw1.size
      · exact Nat.lt_of_lt_of_le (hS1 b hb) (Nat.le_trans hbase hw1.size)
    · rintro e w' ⟨cur', rfl, h1, h2, h3, hw'⟩
      have sameS : SameOn S' w w' := fun b hb => hw'.block b (hS' b hb) (fun e => by have := Option.some.inj e; subst this; exact hno' hb)
      have hkl := keep_le xs.length q
      have hcl : cur'.toList.length = cur'.size := Array.length_toList
      refine ⟨_, rfl, ?_, ⟨hw'.os, hw'.tape, hw'.output, hw'.size, fun b hb => hw'.block b (by omega) (fun e => by have := Option.some.inj e; omega)⟩⟩
      subst hys
      refine ⟨some ⟨g, 0, none⟩, cap, by rw [List.length_map], by rw [List.length_map]; omega, fun _ => ⟨⟨g, 0, none⟩, cur'.toList.take ((keep xs.length q).length * 25), rfl, .inr ⟨hg, blk_lt h1⟩, ?_, ?_, ?_⟩⟩
      · rw [List.length_map, hsz]
        exact List.length_take_of_le (by rw [hcl, h2, hs, hsz]; omega)
      · intro j u hu
        have e2 : ((⟨g, 0, none⟩ : Addr).add j) = ⟨g, j, none⟩ := by unfold Addr.add; split <;> simp_all
        rw [e2, blk_cell h1]
        rw [List.getElem?_take] at hu
        split at hu
        · rw [← Array.getElem?_toList]; exact hu
        · cases hu
      · rw [h3]
        refine RelL_pick _ _ _ fun j hj => ?_
        have hjl : j < xs.length := by
          have := (List.mem_filter.1 hj).1
          simpa using this
        exact (hrow j _ (hzx j hjl)).move sameS (fun b hb => .inl hb)
theorem ext_lt {S : Nat → Prop} {w w' : World} (h : ∀ b, S b → b < w.heap.size) (hs : w.heap.size ≤ w'.heap.size) {b : Nat} (hb : Ext' S w w' b) : b < w'.heap.size := by
  rcases hb with hb | hb
  · exact Nat.lt_of_lt_of_le (h b hb) hs
  · exact hb.2
set_option maxRecDepth 100000 in
set_option maxHeartbeats 8000000 in
theorem index_Against.ok (k : Nat) : SpecOk Tryz.prog 110 (index_Against.spec k) := by
  refine ⟨Tryz.call110, fun w S S1 zs vs y h01 hlt hargs hy => ?_⟩
  obtain ⟨l, i, c, _⟩ := zs
  obtain ⟨v0, vs0, rfl, h0, v1, vs1, rfl, h1, v2, vs2, rfl, h2, hn⟩ := hargs
  have hn' : vs2 = [] := hn
  subst hn'
  obtain ⟨ai, rfl, hi⟩ := h1
  obtain ⟨ac, rfl, hc⟩ := h2
  have hy' : (index_Known k l).bind (fun xs => bif decide (xs.length ≤ 1000000) then filt (fun x => index_Against_1 k x i c) xs else none) = some y := hy
  cases hk : index_Known k l with
  | none => rw [hk] at hy'; cases hy'
  | some xs =>
    rw [hk, Option.bind_some] at hy'
    cases hle : decide (xs.length ≤ 1000000) with
    | false => rw [hle] at hy'; cases hy'
    | true =>
      rw [hle] at hy'
      have hle' := of_decide_eq_true hle
      have hci := inst_cells hi
      obtain ⟨A6, n6, c6, A7, n7, c7, hcc⟩ := cmd_cells hc
      obtain rfl : ai = #[.int .i64 i.1, .int .i64 i.2] := Array.toList_inj.1 hci
      obtain rfl : ac = #[.int .i64 c.1, .int .i64 c.2.1.1, .int .i64 c.2.1.2, .int .i64 c.2.2.1.1, .int .i64 c.2.2.1.2, .int .i64 c.2.2.2.1, .slice A6 n6 c6, .slice A7 n7 c7, .bool c.2.2.2.2.2.2] := Array.toList_inj.1 hcc
      have HI := Aside0.mk hi
      have HC := Aside0.mk hc
      have H0 := Aside0.mk h0
      have HK := Aside0.mk hk
      have HF := Aside0.mk hy'
      have HL := Aside0.mk hle'
      have H01 := Aside0.mk h01
      have HLT := Aside0.mk hlt
      clear hi hc h0 hk hy' hle hle' hci hcc h01 hlt hy hn
      show Calls Tryz.prog 110 #[v0, .agg #[.int .i64 i.1, .int .i64 i.2], .agg #[.int .i64 c.1, .int .i64 c.2.1.1, .int .i64 c.2.1.2, .int .i64 c.2.2.1.1, .int .i64 c.2.2.1.2, .int .i64 c.2.2.2.1, .slice A6 n6 c6, .slice A7 n7 c7, .bool c.2.2.2.2.2.2]] w _
      go_enter Tryz.func110, Tryz.ntmps110
      go_wp2_with (first
        | ((with_reducible refine gate_dst (N := 4) rfl ?_); refine box_event ?hg (N := 4) ?hd (cs := #[.int .i64 i.1, .int .i64 i.2]) (t := 25) ?hr ?_; (case hd => rfl); (case hg => rfl); (case hr => first | (go_simp; done) | (go_simp; rfl)); intro gi hg w4 hbox hb; have HB4 := Aside0.mk hb; have BI := Aside0.mk hbox; clear hbox hb hg)
        | ((with_reducible refine gate_dst (N := 5) rfl ?_); refine box_event ?hg2 (N := 5) ?hd2 (cs := #[.int .i64 c.1, .int .i64 c.2.1.1, .int .i64 c.2.1.2, .int .i64 c.2.2.1.1, .int .i64 c.2.2.1.2, .int .i64 c.2.2.2.1, .slice A6 n6 c6, .slice A7 n7 c7, .bool c.2.2.2.2.2.2]) (t := 33) ?hr2 ?_; (case hd2 => rfl); (case hg2 => rfl); (case hr2 => first | (go_simp; done) | (go_simp; rfl)); intro gc hg w5 hbox hb; have HB5 := Aside0.mk (below_step HB4.out hb); have BI5 := Aside0.mk (blk_below BI.out hb); have BC := Aside0.mk hbox; clear hbox hb hg)
        | (go_at_call 123; refine ((index_Known_ok k).2 w5 S S (l, ()) [v0] xs (fun b hb => hb) (fun b hb => Nat.lt_of_lt_of_le (HLT.out b (H01.out b hb)) HB5.out.size) ⟨_, _, rfl, H0.out.move (fun b hb => HB5.out.block b (HLT.out b (H01.out b hb))) (fun b hb => hb), rfl⟩ HK.out).mono ?_; rintro e w6 ⟨v6, inner, S', rfl, ho, hr, hno, hS', hb⟩; have HO := Aside0.mk ho; have HR := Aside0.mk hr; have HNO := Aside0.mk hno; have HS := Aside0.mk hS'; have HB6 := Aside0.mk hb; clear ho hr hno hS' hb)
        | (go_at_call 122; refine (delete_own (S1 := fun b => b < w5.heap.size) (base := w5.heap.size) HL.out HF.out HO.out HR.out HNO.out (fun b hb => ext_lt (fun b hb => Nat.lt_of_lt_of_le (HLT.out b (H01.out b hb)) HB5.out.size) HB6.out.size (HS.out b hb)) (fun b hb => hb) HB6.out.size (blk_lt BI5.out) (blk_lt BC.out) (blk_below BI5.out HB6.out) (blk_below BC.out HB6.out) (HI.out.move (fun b hb => (HB6.out.block b (Nat.lt_of_lt_of_le (HLT.out b (H01.out b hb)) HB5.out.size)).trans (HB5.out.block b (HLT.out b (H01.out b hb)))) (fun b hb => Nat.lt_of_lt_of_le (HLT.out b (H01.out b hb)) HB5.out.size)) (HC.out.move (fun b hb => (HB6.out.block b (Nat.lt_of_lt_of_le (HLT.out b (H01.out b hb)) HB5.out.size)).trans (HB5.out.block b (HLT.out b (H01.out b hb)))) (fun b hb => Nat.lt_of_lt_of_le (HLT.out b (H01.out b hb)) HB5.out.size))).mono ?_; (rintro e w7 ⟨v7, rfl, hv, hb⟩; have HV := Aside0.mk hv; have HB7 := Aside0.mk hb; clear hv hb)))
      go_ret
      have h5 := HB5.out
      have h6 := HB6.out
      have h7 := HB7.out
      refine ⟨v7, rfl, HV.out.move (fun _ _ => rfl) (fun b hb => ?_), ⟨h7.os.trans (h6.os.trans h5.os), h7.tape.trans (h6.tape.trans h5.tape), h7.output.trans (h6.output.trans h5.output), Nat.le_trans h5.size (Nat.le_trans h6.size h7.size), fun b hb => ?_⟩⟩
      · rcases hb with hb | hb
        · rcases HS.out b hb with hb | hb
          · exact .inl hb
          · exact .inr ⟨Nat.le_trans h5.size hb.1, Nat.lt_of_lt_of_le hb.2 h7.size⟩
        · exact .inr ⟨Nat.le_trans h5.size hb.1, hb.2⟩
      · have hb5 := Nat.lt_of_lt_of_le hb h5.size
        exact (h7.block b hb5).trans ((h6.block b hb5).trans (h5.block b hb))
end Go.Proofs.YtjgcmmpfaemkiaaGreat.V
end
section
namespace Go.Proofs.YtjgcmmpfaemkiaaGreat.X
open Go.RowKit Go.Proofs.YtjgcmmpfaemkiaaGreatW.PrintWords Go.Proofs.YtjgcmmpfaemkiaaGreatW.PrintLast Go.Proofs.YtjgcmmpfaemkiaaGreatW.PrintMore
set_option linter.unusedVariables false
theorem kr_ {α : Type} {d : Kd α} {e base : Nat} {w W : World} {ok : Nat → Prop} {v : Value} {xs : List α} (h : Kd.R d e W base ok v xs) (f : Kd.R d e W base ok v xs → Kd.R d e w base ok v xs := by intro h_; (with_reducible repeat (first | apply Kd.R_alloc | apply Kd.R_drewN | apply Kd.R_drew)); exact h_) : Kd.R d e w base ok v xs := f h
theorem lb_ {B : Nat} {w W : World} (h : Below B w W := by repeat (first | (with_reducible first | exact HB.out | apply below_alloc | apply pw_below_drewN | apply below_drew1) | exact HB.out)) : Below B w W := h
theorem bs_ {α β : Type} {x : Option α} {f : α → Option β} {r : β} (h : x.bind f = some r) : ∃ a, Aside0 (x = some a) ∧ f a = some r := by
  obtain ⟨a, h1, h2⟩ := Option.bind_eq_some_iff.mp h
  exact ⟨a, ⟨h1⟩, h2⟩
end Go.Proofs.YtjgcmmpfaemkiaaGreat.X
end
section
namespace Go.Proofs.YtjgcmmpfaemkiaaGreat.X
open Go.RowKit Go.Proofs.YtjgcmmpfaemkiaaGreatW.PrintWords Go.Proofs.YtjgcmmpfaemkiaaGreatW.PrintLast Go.Proofs.YtjgcmmpfaemkiaaGreatW.PrintMore
attribute [local go_sem] max2_int min2_int max_two min_two max_three min_three max_four min_four   -- for this text's walks alone
set_option linter.unusedVariables false
set_option linter.unusedSimpArgs false
def althingref04_Before.l0 : Nat → ByteArray → ByteArray → Int → Option (Bool)
 | 0, _, _, _ => none
 | k + 1, x0, x1, x5 => if x5 < (x1.size : Int) then (if x5 = (x0.size : Int) then (some true) else (if 0 ≤ x5 then (if x5 < (x0.size : Int) then (if (bt x0 x5) = (bt x1 x5) then (althingref04_Before.l0 k x0 x1 (wrap64 (x5 + 1))) else (some (decide ((bt x0 x5) < (bt x1 x5))))) else (none)) else (none))) else (some false)
def althingref04_Before.f (k : Nat) (a0 : ByteArray) (a1 : ByteArray) : Option (Bool) := althingref04_Before.l0 k a0 a1 0
set_option maxHeartbeats 8000000 in
set_option maxRecDepth 100000 in
theorem althingref04_Before.calls (k : Nat) (a0 : ByteArray) (a1 : ByteArray) (r : Bool) (w : World) (h : althingref04_Before.f k a0 a1 = some r) :
 Calls Tryz.prog 118 #[.string a0, .string a1] w fun e w' => e = .returned (.bool r) ∧ Drawn0 w w' := by
 have H : (althingref04_Before.l0 k a0 a1 0) = some r := h
 clear h
 have H' := Aside0.mk H
 clear H
 go_enter Tryz.func118, Tryz.ntmps118
 go_wp2
 repeat (go_quiet (fail); try go_wp2)
 go_loopg [5] k (fun kq v5 w' => ∃ (x5_1 : Int), v5 = .int .i64 x5_1 ∧ Aside0 (althingref04_Before.l0 kq a0 a1 x5_1 = some r) ∧ Aside0 (kq ≤ k) ∧ Drawn0 w w')
 case atStart => exact ⟨(0), (by first | rfl | (simp; done) | (simp [*]; done)), H', ⟨Nat.le_refl _⟩, by repeat (first | exact Drawn0.refl _ | apply Drawn0.step)⟩
 case round =>
  clear H'
  try clear c1
  try clear p2
  obtain ⟨x5_1, rfl, HA, HK1, ⟨m1, rfl⟩⟩ := hrel
  cases gk with
  | zero => exact absurd HA.out (by simp [althingref04_Before.l0])
  | succ k1 =>
   have H := HA.out
   clear HA
   simp only [althingref04_Before.l0] at H
   by_cases c3 : x5_1 < (a1.size : Int)
   · rw [if_pos c3] at H
     have c3b0 : decide (x5_1 < (a1.size : Int)) = true := decide_eq_true c3
     clear c3
     by_cases c4 : x5_1 = (a0.size : Int)
     · rw [if_pos c4] at H
       have c4b0 : (x5_1 == (a0.size : Int)) = true := beq_iff_eq.mpr c4
       have c4b1 : (x5_1 != (a0.size : Int)) = false := bne_eq_false_iff_eq.mpr c4
       clear c4
       obtain rfl := Option.some.inj H
       go_wp2
       repeat (go_quiet (fail); try go_wp2)
       go_ret
       exact ⟨by first | rfl | (simp; done) | (simp [*]; done), by repeat (first | exact Drawn0.refl _ | apply Drawn0.step)⟩
     · rw [if_neg c4] at H
       have c4b0 : (x5_1 == (a0.size : Int)) = false := beq_eq_false_iff_ne.mpr c4
       have c4b1 : (x5_1 != (a0.size : Int)) = true := bne_iff_ne.mpr c4
       by_cases c5 : 0 ≤ x5_1
       · rw [if_pos c5] at H
         have c5b0 : decide (0 ≤ x5_1) = true := decide_eq_true c5
         clear c5
         by_cases c6 : x5_1 < (a0.size : Int)
         · rw [if_pos c6] at H
           have c6b0 : decide (x5_1 < (a0.size : Int)) = true := decide_eq_true c6
           clear c6
           by_cases c9 : (bt a0 x5_1) = (bt a1 x5_1)
           · rw [if_pos c9] at H
             have c9b0 : ((bt a0 x5_1) == (bt a1 x5_1)) = true := beq_iff_eq.mpr c9
             have c9b1 : ((bt a0 x5_1) != (bt a1 x5_1)) = false := bne_eq_false_iff_eq.mpr c9
             clear c9
             have H' := Aside0.mk H
             clear H
             have p7 : 0 ≤ (x5_1 : Int) := of_decide_eq_true (by first | (with_reducible assumption) | assumption)
             have q7 : x5_1 < (a0.size : Int) := of_decide_eq_true (by first | (with_reducible assumption) | assumption)
             have hx7 := bt_at a0 x5_1
             replace p7 := eq_true p7
             replace q7 := eq_true q7
             have p8 : 0 ≤ (x5_1 : Int) := of_decide_eq_true (by first | (with_reducible assumption) | assumption)
             have q8 : x5_1 < (a1.size : Int) := of_decide_eq_true (by first | (with_reducible assumption) | assumption)
             have hx8 := bt_at a1 x5_1
             replace p8 := eq_true p8
             replace q8 := eq_true q8
             go_wp2
             repeat (go_quiet (fail); try go_wp2)
             go_roundg k1
             case measure => have := HK1.out; omega
             case rel => exact ⟨(wrap64 (x5_1 + 1)), (by first | rfl | (simp; done) | (simp [*]; done)), H', ⟨by have := HK1.out; omega⟩, by repeat (first | exact Drawn0.refl _ | apply Drawn0.step)⟩
           · rw [if_neg c9] at H
             have c9b0 : ((bt a0 x5_1) == (bt a1 x5_1)) = false := beq_eq_false_iff_ne.mpr c9
             have c9b1 : ((bt a0 x5_1) != (bt a1 x5_1)) = true := bne_iff_ne.mpr c9
             obtain rfl := Option.some.inj H
             have p7 : 0 ≤ (x5_1 : Int) := of_decide_eq_true (by first | (with_reducible assumption) | assumption)
             have q7 : x5_1 < (a0.size : Int) := of_decide_eq_true (by first | (with_reducible assumption) | assumption)
             have hx7 := bt_at a0 x5_1
             replace p7 := eq_true p7
             replace q7 := eq_true q7
             have p8 : 0 ≤ (x5_1 : Int) := of_decide_eq_true (by first | (with_reducible assumption) | assumption)
             have q8 : x5_1 < (a1.size : Int) := of_decide_eq_true (by first | (with_reducible assumption) | assumption)
             have hx8 := bt_at a1 x5_1
             replace p8 := eq_true p8
             replace q8 := eq_true q8
             have p10 : 0 ≤ (x5_1 : Int) := of_decide_eq_true (by first | (with_reducible assumption) | assumption)
             have q10 : x5_1 < (a0.size : Int) := of_decide_eq_true (by first | (with_reducible assumption) | assumption)
             have hx10 := bt_at a0 x5_1
             replace p10 := eq_true p10
             replace q10 := eq_true q10
             have p11 : 0 ≤ (x5_1 : Int) := of_decide_eq_true (by first | (with_reducible assumption) | assumption)
             have q11 : x5_1 < (a1.size : Int) := of_decide_eq_true (by first | (with_reducible assumption) | assumption)
             have hx11 := bt_at a1 x5_1
             replace p11 := eq_true p11
             replace q11 := eq_true q11
             go_wp2
             repeat (go_quiet (fail); try go_wp2)
             go_ret
             exact ⟨by first | rfl | (simp; done) | (simp [*]; done), by repeat (first | exact Drawn0.refl _ | apply Drawn0.step)⟩
         · rw [if_neg c6] at H
           exact absurd H (by simp)
       · rw [if_neg c5] at H
         exact absurd H (by simp)
   · rw [if_neg c3] at H
     have c3b0 : decide (x5_1 < (a1.size : Int)) = false := decide_eq_false c3
     clear c3
     obtain rfl := Option.some.inj H
     go_wp2
     repeat (go_quiet (fail); try go_wp2)
     go_ret
     exact ⟨by first | rfl | (simp; done) | (simp [*]; done), by repeat (first | exact Drawn0.refl _ | apply Drawn0.step)⟩
end Go.Proofs.YtjgcmmpfaemkiaaGreat.X
end
section
namespace Go.Proofs.YtjgcmmpfaemkiaaGreat.X
open Go.RowKit Go.Proofs.YtjgcmmpfaemkiaaGreatW.PrintWords Go.Proofs.YtjgcmmpfaemkiaaGreatW.PrintLast Go.Proofs.YtjgcmmpfaemkiaaGreatW.PrintMore
attribute [local go_sem] max2_int min2_int max_two min_two max_three min_three max_four min_four   -- for this text's walks alone
set_option linter.unusedVariables false
set_option linter.unusedSimpArgs false
def althingref04_In.l0 : Nat → List ByteArray → ByteArray → Int → Option (Bool)
 | 0, _, _, _ => none
 | k + 1, x0, x1, x5 => if x5 < (x0.length : Int) then (if 0 ≤ x5 then (if (rdOf ByteArray.empty x0 x5).toList = x1.toList then (some true) else (althingref04_In.l0 k x0 x1 (wrap64 (x5 + 1)))) else (none)) else (some false)
def althingref04_In.f (k : Nat) (l0 : List ByteArray) (a1 : ByteArray) : Option (Bool) := althingref04_In.l0 k l0 a1 0
set_option maxHeartbeats 8000000 in
set_option maxRecDepth 100000 in
theorem althingref04_In.calls (k : Nat) (A0 : Option Addr) (c0 : Nat) (l0 : List ByteArray) (a1 : ByteArray) (r : Bool) (w : World) (hr0 : Kd.C Kd.string w A0 l0.length l0) (hc0 : l0.length ≤ c0) (h : althingref04_In.f k l0 a1 = some r) :
 Calls Tryz.prog 135 #[.slice A0 l0.length c0, .string a1] w fun e w' => e = .returned (.bool r) ∧ Drawn0 w w' := by
 have HR0 := Aside0.mk hr0
 have HC0 := Aside0.mk hc0
 clear hr0 hc0
 have H : (althingref04_In.l0 k l0 a1 0) = some r := h
 clear h
 have H' := Aside0.mk H
 clear H
 go_enter Tryz.func135, Tryz.ntmps135
 go_wp2
 go_loopg [5] k (fun kq v5 w' => ∃ (x5_1 : Int), v5 = .int .i64 x5_1 ∧ Aside0 (althingref04_In.l0 kq l0 a1 x5_1 = some r) ∧ Aside0 (kq ≤ k) ∧ Drawn0 w w')
 case atStart => exact ⟨(0), (by first | rfl | (simp; done) | (simp [*]; done)), H', ⟨Nat.le_refl _⟩, by repeat (first | exact Drawn0.refl _ | apply Drawn0.step)⟩
 case round =>
  clear H'
  try clear c1
  try clear p2
  obtain ⟨x5_1, rfl, HA, HK1, ⟨m1, rfl⟩⟩ := hrel
  cases gk with
  | zero => exact absurd HA.out (by simp [althingref04_In.l0])
  | succ k1 =>
   have H := HA.out
   clear HA
   simp only [althingref04_In.l0] at H
   by_cases c3 : x5_1 < (l0.length : Int)
   · rw [if_pos c3] at H
     have c3b0 : decide (x5_1 < (l0.length : Int)) = true := decide_eq_true c3
     clear c3
     by_cases c4 : 0 ≤ x5_1
     · rw [if_pos c4] at H
       have c4b0 : decide (0 ≤ x5_1) = true := decide_eq_true c4
       clear c4
       by_cases c5 : (rdOf ByteArray.empty l0 x5_1).toList = a1.toList
       · rw [if_pos c5] at H
         have c5b0 : ((rdOf ByteArray.empty l0 x5_1).toList == a1.toList) = true := beq_iff_eq.mpr c5
         have c5b1 : ((rdOf ByteArray.empty l0 x5_1).toList != a1.toList) = false := bne_eq_false_iff_eq.mpr c5
         clear c5
         obtain rfl := Option.some.inj H
         have p1075 : 0 ≤ (x5_1 : Int) := of_decide_eq_true (by first | (with_reducible assumption) | assumption)
         have q1075 : x5_1 < (l0.length : Int) := of_decide_eq_true (by first | (with_reducible assumption) | assumption)
         obtain ⟨ad1075, e1075, hx1075_0⟩ := Kd.at_string HR0.out x5_1 p1075 q1075
         cases e1075
         replace p1075 := eq_true p1075
         replace q1075 := eq_true q1075
         go_wp2
         go_ret
         exact ⟨by first | rfl | (simp; done) | (simp [*]; done), by repeat (first | exact Drawn0.refl _ | apply Drawn0.step)⟩
       · rw [if_neg c5] at H
         have c5b0 : ((rdOf ByteArray.empty l0 x5_1).toList == a1.toList) = false := beq_eq_false_iff_ne.mpr c5
         have c5b1 : ((rdOf ByteArray.empty l0 x5_1).toList != a1.toList) = true := bne_iff_ne.mpr c5
         have H' := Aside0.mk H
         clear H
         have p1075 : 0 ≤ (x5_1 : Int) := of_decide_eq_true (by first | (with_reducible assumption) | assumption)
         have q1075 : x5_1 < (l0.length : Int) := of_decide_eq_true (by first | (with_reducible assumption) | assumption)
         obtain ⟨ad1075, e1075, hx1075_0⟩ := Kd.at_string HR0.out x5_1 p1075 q1075
         cases e1075
         replace p1075 := eq_true p1075
         replace q1075 := eq_true q1075
         go_wp2
         go_roundg k1
         case measure => have := HK1.out; omega
         case rel => exact ⟨(wrap64 (x5_1 + 1)), (by first | rfl | (simp; done) | (simp [*]; done)), H', ⟨by have := HK1.out; omega⟩, by repeat (first | exact Drawn0.refl _ | apply Drawn0.step)⟩
     · rw [if_neg c4] at H
       exact absurd H (by simp)
   · rw [if_neg c3] at H
     have c3b0 : decide (x5_1 < (l0.length : Int)) = false := decide_eq_false c3
     clear c3
     obtain rfl := Option.some.inj H
     go_wp2
     go_ret
     exact ⟨by first | rfl | (simp; done) | (simp [*]; done), by repeat (first | exact Drawn0.refl _ | apply Drawn0.step)⟩
end Go.Proofs.YtjgcmmpfaemkiaaGreat.X
end
section
namespace Go.Proofs.YtjgcmmpfaemkiaaGreat.X
open Go.RowKit Go.Proofs.YtjgcmmpfaemkiaaGreatW.PrintWords Go.Proofs.YtjgcmmpfaemkiaaGreatW.PrintLast Go.Proofs.YtjgcmmpfaemkiaaGreatW.PrintMore
attribute [local go_sem] max2_int min2_int max_two min_two max_three min_three max_four min_four   -- for this text's walks alone
set_option linter.unusedVariables false
set_option linter.unusedSimpArgs false
mutual
def althingref04_Join.l0 : Nat → List ByteArray → List ByteArray → Int → Option (List ByteArray)
 | 0, _, _, _ => none
 | k + 1, x5, x6, x7 => if x7 < (x6.length : Int) then (if 0 ≤ x7 then ((althingref04_In.f k x5 (rdOf ByteArray.empty x6 x7)).bind fun t1086 => (if t1086 = true then (althingref04_Join.l0 k x5 x6 (wrap64 (x7 + 1))) else (althingref04_Join.l1 k x5 x6 x7 0))) else (none)) else (some x5)
def althingref04_Join.l1 : Nat → List ByteArray → List ByteArray → Int → Int → Option (List ByteArray)
 | 0, _, _, _, _ => none
 | k + 1, x5, x6, x7, x8 => if x8 < (x5.length : Int) then (if 0 ≤ x8 then (if 0 ≤ x7 then (if x7 < (x6.length : Int) then ((althingref04_Before.f k (rdOf ByteArray.empty x5 x8) (rdOf ByteArray.empty x6 x7)).bind fun t1089 => (if t1089 = true then (althingref04_Join.l1 k x5 x6 x7 (wrap64 (x8 + 1))) else ((some (([] : List ByteArray) : List ByteArray)).bind fun y1090 => (if x8 ≤ (x5.length : Int) then ((some (x5.drop (x8 : Int).toNat : List ByteArray)).bind fun y1093 => (if y1090.length + y1093.length < 8796093022208 then ((some (y1090 ++ y1093 : List ByteArray)).bind fun y1097 => ((some (x5.take (x8 : Int).toNat : List ByteArray)).bind fun y1100 => (if y1100.length < 8796093022208 then ((some (y1100 ++ [rdOf ByteArray.empty x6 x7] : List ByteArray)).bind fun y1104 => (if y1104.length + y1097.length < 8796093022208 then (althingref04_Join.l0 k (y1104 ++ y1097) x6 (wrap64 (x7 + 1))) else (none))) else (none)))) else (none))) else (none))))) else (none)) else (none)) else (none)) else ((some (([] : List ByteArray) : List ByteArray)).bind fun y1110 => (if 0 ≤ x8 then (if x8 ≤ (x5.length : Int) then ((some (x5.drop (x8 : Int).toNat : List ByteArray)).bind fun y1113 => (if y1110.length + y1113.length < 8796093022208 then ((some (y1110 ++ y1113 : List ByteArray)).bind fun y1117 => ((some (x5.take (x8 : Int).toNat : List ByteArray)).bind fun y1120 => (if 0 ≤ x7 then (if x7 < (x6.length : Int) then (if y1120.length < 8796093022208 then ((some (y1120 ++ [rdOf ByteArray.empty x6 x7] : List ByteArray)).bind fun y1124 => (if y1124.length + y1117.length < 8796093022208 then (althingref04_Join.l0 k (y1124 ++ y1117) x6 (wrap64 (x7 + 1))) else (none))) else (none)) else (none)) else (none)))) else (none))) else (none)) else (none)))
end
def althingref04_Join.f (k : Nat) (l0 : List ByteArray) (l1 : List ByteArray) : Option (List ByteArray) := (some (([] : List ByteArray) : List ByteArray)).bind fun y1076 => (if y1076.length + l0.length < 8796093022208 then ((some (y1076 ++ l0 : List ByteArray)).bind fun y1079 => (if y1079.length + l1.length < 8796093022208 then (althingref04_Join.l0 k ([] : List ByteArray) (y1079 ++ l1) 0) else (none))) else (none))
def althingref04_Join.T8 : Bool × List (List Nat × List Nat) := (true, [([], []), ([], []), ([1], [1]), ([0, 2], [0, 2]), ([3], [3]), ([4], [4]), ([4], [4]), ([5, 6, 4], [4, 5, 6]), ([7, 4], [4, 7]), ([4], [4]), ([4], [4]), ([9, 10, 4], [4, 9, 10]), ([11, 4], [4, 11]), ([8, 12, 4, 4], [4, 8, 12]), ([4, 13], [4, 13])])
def althingref04_Join.B8 : List Nat := [0, 0, 2, 7, 15, 31, 31, 127, 255, 31, 31, 1567, 3615, 8191, 16383]
theorem althingref04_Join.tab8 : rtab .any (opsOf Tryz.f140 8) = althingref04_Join.T8 := by kernel_rfl
theorem althingref04_Join.bits8 : waitsOk althingref04_Join.T8.2 althingref04_Join.B8 = true := by kernel_rfl
def althingref04_Join.T11 : Bool × List (List Nat × List Nat) := (true, [([], []), ([], []), ([0, 1], [0, 1]), ([], []), ([], []), ([3, 4], [3, 4]), ([5], [5]), ([6], [6]), ([2, 7], [2, 7]), ([], []), ([8, 9, 8], [8, 9]), ([10, 10, 0, 1, 2, 3, 4, 5, 6, 7, 8, 9, 10], [0, 10])])
def althingref04_Join.B11 : List Nat := [0, 0, 3, 0, 0, 24, 56, 120, 255, 0, 1023, 2047]
theorem althingref04_Join.tab11 : rtab .any (opsOf Tryz.f140 11) = althingref04_Join.T11 := by kernel_rfl
theorem althingref04_Join.bits11 : waitsOk althingref04_Join.T11.2 althingref04_Join.B11 = true := by kernel_rfl
set_option maxHeartbeats 8000000 in
set_option maxRecDepth 100000 in
theorem althingref04_Join.calls (k : Nat) (A0 : Option Addr) (c0 : Nat) (l0 : List ByteArray) (A1 : Option Addr) (c1 : Nat) (l1 : List ByteArray) (r : List ByteArray) (w : World) (hr0 : Kd.C Kd.string w A0 l0.length l0) (hc0 : l0.length ≤ c0) (hr1 : Kd.C Kd.string w A1 l1.length l1) (hc1 : l1.length ≤ c1) (h : althingref04_Join.f k l0 l1 = some r) :
 Calls Tryz.prog 140 #[.slice A0 l0.length c0, .slice A1 l1.length c1] w fun e w' => ∃ v0_ : Value, e = .returned (v0_) ∧ Kd.R Kd.string 9 w' w.heap.size (fun _ => True) v0_ r ∧ Below w.heap.size w w' := by
 have HR0 := Aside0.mk hr0
 have HC0 := Aside0.mk hc0
 clear hr0 hc0
 have HR1 := Aside0.mk hr1
 have HC1 := Aside0.mk hc1
 clear hr1 hc1
 have HB := Aside0.mk (Below.refl w.heap.size w)
 have H : ((some (([] : List ByteArray) : List ByteArray)).bind fun y1076 => (if y1076.length + l0.length < 8796093022208 then ((some (y1076 ++ l0 : List ByteArray)).bind fun y1079 => (if y1079.length + l1.length < 8796093022208 then (althingref04_Join.l0 k ([] : List ByteArray) (y1079 ++ l1) 0) else (none))) else (none))) = some r := h
 clear h
 obtain ⟨y1076, hy1076⟩ : ∃ y_ : List ByteArray, y_ = (([] : List ByteArray)) := ⟨_, rfl⟩
 replace H : (if y1076.length + l0.length < 8796093022208 then ((some (y1076 ++ l0 : List ByteArray)).bind fun y1079 => (if y1079.length + l1.length < 8796093022208 then (althingref04_Join.l0 k ([] : List ByteArray) (y1079 ++ l1) 0) else (none))) else (none)) = some r := by first | (rw [hy1076]; with_reducible exact H) | (have H2_ := (Option.bind_some _ _).symm.trans H; rw [hy1076]; with_reducible exact H2_) | (have H2_ := (Option.bind_some _ _).symm.trans H; with_reducible exact H2_) | with_reducible exact H | (rw [hy1076]; exact H) | exact H
 have Ny1076 := Aside0.mk hy1076
 clear hy1076
 by_cases c3 : y1076.length + l0.length < 8796093022208
 · rw [if_pos c3] at H
   have LMc3 := Aside0.mk c3
   clear c3
   obtain ⟨y1079, hy1079⟩ : ∃ y_ : List ByteArray, y_ = (y1076 ++ l0) := ⟨_, rfl⟩
   replace H : (if y1079.length + l1.length < 8796093022208 then (althingref04_Join.l0 k ([] : List ByteArray) (y1079 ++ l1) 0) else (none)) = some r := by first | (rw [hy1079]; with_reducible exact H) | (have H2_ := (Option.bind_some _ _).symm.trans H; rw [hy1079]; with_reducible exact H2_) | (have H2_ := (Option.bind_some _ _).symm.trans H; with_reducible exact H2_) | with_reducible exact H | (rw [hy1079]; exact H) | exact H
   have Ny1079 := Aside0.mk hy1079
   clear hy1079
   by_cases c4 : y1079.length + l1.length < 8796093022208
   · rw [if_pos c4] at H
     have LMc4 := Aside0.mk c4
     clear c4
     obtain ⟨y1082, hy1082⟩ : ∃ y_ : List ByteArray, y_ = (y1079 ++ l1) := ⟨_, rfl⟩
     replace H : (althingref04_Join.l0 k ([] : List ByteArray) y1082 0) = some r := by first | (rw [hy1082]; with_reducible exact H) | (have H2_ := (Option.bind_some _ _).symm.trans H; rw [hy1082]; with_reducible exact H2_) | (have H2_ := (Option.bind_some _ _).symm.trans H; with_reducible exact H2_) | with_reducible exact H | (rw [hy1082]; exact H) | exact H
     have Ny1082 := Aside0.mk hy1082
     clear hy1082
     have H' := Aside0.mk H
     clear H
     go_enter Tryz.func140, Tryz.ntmps140
     go_wp2_with (first | ((with_reducible refine gate_dst (N := 10) rfl ?_); refine Kd.R_lit Kd.string _ 9 ?hg (N := 10) ?hd (xs := ([] : List ByteArray)) (inner := []) (ok := fun _ => True) (okp := fun _ => True) ?hr ?hp (fun _ hk => hk) trivial (Below.refl _ _) (Nat.le_refl _) (by simp) ?_; (case hd => rfl); (case hg => rfl); (case hr => first | (go_simp; done) | (go_simp; rfl)); (case hp => exact (Reps.none _ _)); intro v1077 w5 ho6 hb hg_ hnew_; clear hg_ hnew_; (first | rw [← Ny1076.out] at ho6 | (simp only [Int.reduceToNat] at ho6; rw [← Ny1076.out] at ho6)); have n0_ := Aside0.mk (Kd.R_lower ho6 (below_size lb_)); have n1_ := Aside0.mk (below_step lb_ hb); clear HB; have HO1078 := n0_; have HB := n1_; clear n0_ n1_ hb ho6) | ((with_reducible refine gate_builtin (b := .append) (xs := #[.tmp 10, .tmp 11]) rfl ?_); at_builtin; refine Kd.R_append_rows Kd.string (w0 := w) w.heap.size rfl (.tmp 10) (.tmp 11) 131 9 (.string ⟨#[]⟩) 16 rfl Tryz.underlying131 info9 rfl (by decide) (by omega) v1077 y1076 l0 _ _ _ (fun _ => True) (fun _ => False) rfl rfl ?aO ?aR (fun _ _ h => h) (fun _ h => h.elim) ?aF ?aB ?aS ?aL ?_; (case aR => repeat (first | exact (Kd.C_below HR0.out HB.out) | (with_reducible refine Kd.C_alloc ?_ _) | (with_reducible refine Kd.C_drewN ?_ _) | (with_reducible refine Kd.C_drew ?_))); (case aB => exact lb_); (case aF => exact (fun _ _ => trivial)); (case aO => exact (kr_ HO1078.out)); (case aS => exact (below_size lb_)); (case aL => have := LMc3.out; omega); intro v1080 w7 ho hb hg hat; rw [← Ny1079.out] at ho; have n0_ := Aside0.mk (hb); have n1_ := Aside0.mk (ho); clear HB HO1078; have HB := n0_; have HO1081 := n1_; clear n0_ n1_ ho hb hg hat) | ((with_reducible refine gate_builtin (b := .append) (xs := #[.tmp 12, .tmp 13]) rfl ?_); at_builtin; refine Kd.R_append_rows Kd.string (w0 := w) w.heap.size rfl (.tmp 12) (.tmp 13) 131 9 (.string ⟨#[]⟩) 16 rfl Tryz.underlying131 info9 rfl (by decide) (by omega) v1080 y1079 l1 _ _ _ (fun _ => True) (fun _ => False) rfl rfl ?aO ?aR (fun _ _ h => h) (fun _ h => h.elim) ?aF ?aB ?aS ?aL ?_; (case aR => repeat (first | exact (Kd.C_below HR1.out HB.out) | (with_reducible refine Kd.C_alloc ?_ _) | (with_reducible refine Kd.C_drewN ?_ _) | (with_reducible refine Kd.C_drew ?_))); (case aB => exact lb_); (case aF => exact (fun _ _ => trivial)); (case aO => exact (kr_ HO1081.out)); (case aS => exact (below_size lb_)); (case aL => have := LMc4.out; omega); intro v1083 w8 ho hb hg hat; rw [← Ny1082.out] at ho; have n0_ := Aside0.mk (hb); have n1_ := Aside0.mk (ho); clear HB HO1081; have HB := n0_; have HO1084 := n1_; clear n0_ n1_ ho hb hg hat))
     go_loopg [5, 7] k (fun kq v5 v7 w' => ∃ (x5_1 : List ByteArray) (x7_1 : Int), v7 = .int .i64 x7_1 ∧ Aside0 (althingref04_Join.l0 kq x5_1 y1082 x7_1 = some r) ∧ Aside0 (kq ≤ k) ∧ Aside0 (Kd.R Kd.string 9 w' w.heap.size (fun k_ => some k_ ≠ (v1083 : Value).ownBlock) v5 x5_1) ∧ Aside0 (Kd.R Kd.string 9 w' w.heap.size (fun k_ => some k_ ≠ (v5 : Value).ownBlock) v1083 y1082) ∧ Aside0 (Below w.heap.size w w'))
     case atStart => exact ⟨(([] : List ByteArray)), (0), (by first | rfl | (simp; done) | (simp [*]; done)), H', ⟨Nat.le_refl _⟩, ⟨by first | exact Kd.R_nil _ _ _ _ _ | exact Kd.N_nil _ _ _ _ _ | exact Kd.V_nil _ _ _ _ _ | exact Kd.Q_nil _ _ _ _ _ | exact Kd.S_nil _ _ _ _ _⟩, ⟨by (with_reducible repeat (first | apply Kd.R_alloc | apply Kd.R_drewN | apply Kd.R_drew)); exact Kd.R_mono HO1084.out (fun _ hk => (by simp [Value.ownBlock]))⟩, ⟨by repeat (first | (with_reducible first | exact HB.out | apply below_alloc | apply pw_below_drewN | apply below_drew1) | exact HB.out)⟩⟩
     case round =>
      clear H'
      try clear c1
      try clear p2
      try clear c3
      try clear c4
      obtain ⟨x5_1, x7_1, rfl, HA, HK1, HO_5, HO_6, HB⟩ := hrel
      cases gk with
      | zero => exact absurd HA.out (by simp [althingref04_Join.l0])
      | succ k1 =>
       have H := HA.out
       clear HA
       simp only [althingref04_Join.l0] at H
       by_cases c9 : x7_1 < (y1082.length : Int)
       · rw [if_pos c9] at H
         have c9b0 : decide (x7_1 < (y1082.length : Int)) = true := decide_eq_true c9
         clear c9
         by_cases c10 : 0 ≤ x7_1
         · rw [if_pos c10] at H
           have c10b0 : decide (0 ≤ x7_1) = true := decide_eq_true c10
           clear c10
           obtain ⟨t1086, A11, H⟩ := bs_ H
           by_cases c12 : t1086 = true
           · subst c12
             rw [if_pos rfl] at H
             have H' := Aside0.mk H
             clear H
             obtain ⟨Ao13, co13, eo13⟩ := Kd.R_slice HO_6.out
             subst eo13
             have p1085 : 0 ≤ (x7_1 : Int) := of_decide_eq_true (by first | (with_reducible assumption) | assumption)
             have q1085 : x7_1 < (y1082.length : Int) := of_decide_eq_true (by first | (with_reducible assumption) | assumption)
             obtain ⟨ad1085, e1085, hx1085_0⟩ := Kd.at_string (Kd.R_reads' HO_6.out).2.2 x7_1 p1085 q1085
             cases e1085
             replace p1085 := eq_true p1085
             replace q1085 := eq_true q1085
             obtain ⟨Ao14, co14, eo14⟩ := Kd.R_slice HO_5.out
             subst eo14
             go_wp2_with (first | ((with_reducible refine gate_callee (f := 135) rfl ?_); refine goesL_ (some 26) rfl rfl Tryz.func135 (by kernel_rfl) rfl #[.slice Ao14 x5_1.length co14, .string (rdOf ByteArray.empty y1082 x7_1)] rfl (by (try simp only [List.map_toArray, List.map_cons, List.map_nil]); first | done | rfl | (simp only [List.length_drop, List.length_take]; rfl)) ?_; (with_reducible refine (althingref04_In.calls k1 _ _ x5_1 (rdOf ByteArray.empty y1082 x7_1) true _ ?side1 ?side2 A11.out).mono ?_); (case side1 => repeat (first | exact (Kd.R_reads' HO_5.out).2.2 | (with_reducible refine Kd.C_alloc ?_ _) | (with_reducible refine Kd.C_drewN ?_ _) | (with_reducible refine Kd.C_drew ?_))); (case side2 => exact (Kd.R_reads' HO_5.out).2.1); rintro e w' ⟨rfl, ⟨nd, rfl⟩⟩; refine ⟨_, rfl, ?_⟩))
             go_roundg k1
             case measure => have := HK1.out; omega
             case rel => exact ⟨(x5_1), (wrap64 (x7_1 + 1)), (by first | rfl | (simp; done) | (simp [*]; done)), H', ⟨by have := HK1.out; omega⟩, ⟨by (with_reducible repeat (first | apply Kd.R_alloc | apply Kd.R_drewN | apply Kd.R_drew)); exact HO_5.out⟩, ⟨by (with_reducible repeat (first | apply Kd.R_alloc | apply Kd.R_drewN | apply Kd.R_drew)); exact HO_6.out⟩, ⟨by repeat (first | (with_reducible first | exact HB.out | apply below_alloc | apply pw_below_drewN | apply below_drew1) | exact HB.out)⟩⟩
           · replace c12 := Bool.eq_false_iff.mpr c12
             subst c12
             rw [if_neg (show ¬ (false = true) by decide)] at H
             have H' := Aside0.mk H
             clear H
             obtain ⟨Ao15, co15, eo15⟩ := Kd.R_slice HO_6.out
             subst eo15
             have p1085 : 0 ≤ (x7_1 : Int) := of_decide_eq_true (by first | (with_reducible assumption) | assumption)
             have q1085 : x7_1 < (y1082.length : Int) := of_decide_eq_true (by first | (with_reducible assumption) | assumption)
             obtain ⟨ad1085, e1085, hx1085_0⟩ := Kd.at_string (Kd.R_reads' HO_6.out).2.2 x7_1 p1085 q1085
             cases e1085
             replace p1085 := eq_true p1085
             replace q1085 := eq_true q1085
             obtain ⟨Ao16, co16, eo16⟩ := Kd.R_slice HO_5.out
             subst eo16
             go_wp2_with (first | ((with_reducible refine gate_callee (f := 135) rfl ?_); refine goesL_ (some 26) rfl rfl Tryz.func135 (by kernel_rfl) rfl #[.slice Ao16 x5_1.length co16, .string (rdOf ByteArray.empty y1082 x7_1)] rfl (by (try simp only [List.map_toArray, List.map_cons, List.map_nil]); first | done | rfl | (simp only [List.length_drop, List.length_take]; rfl)) ?_; (with_reducible refine (althingref04_In.calls k1 _ _ x5_1 (rdOf ByteArray.empty y1082 x7_1) false _ ?side1 ?side2 A11.out).mono ?_); (case side1 => repeat (first | exact (Kd.R_reads' HO_5.out).2.2 | (with_reducible refine Kd.C_alloc ?_ _) | (with_reducible refine Kd.C_drewN ?_ _) | (with_reducible refine Kd.C_drew ?_))); (case side2 => exact (Kd.R_reads' HO_5.out).2.1); rintro e w' ⟨rfl, ⟨nd, rfl⟩⟩; refine ⟨_, rfl, ?_⟩))
             go_loopg [8] k1 (fun kq v8 w' => ∃ (x8_2 : Int), v8 = .int .i64 x8_2 ∧ Aside0 (althingref04_Join.l1 kq x5_1 y1082 x7_1 x8_2 = some r) ∧ Aside0 (kq ≤ k1) ∧ Aside0 (Kd.R Kd.string 9 w' w.heap.size (fun k_ => some k_ ≠ ((.slice (some ad1085) y1082.length co15) : Value).ownBlock) (.slice Ao16 x5_1.length co16) x5_1) ∧ Aside0 (Kd.R Kd.string 9 w' w.heap.size (fun k_ => some k_ ≠ ((.slice Ao16 x5_1.length co16) : Value).ownBlock) (.slice (some ad1085) y1082.length co15) y1082) ∧ Aside0 (Below w.heap.size w w'))
             case atStart => exact ⟨(0), (by first | rfl | (simp; done) | (simp [*]; done)), H', ⟨Nat.le_refl _⟩, ⟨by (with_reducible repeat (first | apply Kd.R_alloc | apply Kd.R_drewN | apply Kd.R_drew)); exact HO_5.out⟩, ⟨by (with_reducible repeat (first | apply Kd.R_alloc | apply Kd.R_drewN | apply Kd.R_drew)); exact HO_6.out⟩, ⟨by repeat (first | (with_reducible first | exact HB.out | apply below_alloc | apply pw_below_drewN | apply below_drew1) | exact HB.out)⟩⟩
             case round =>
              clear H'
              try clear c1
              try clear p1
              try clear q1
              try clear hx1
              try clear p2
              try clear c3
              try clear c4
              try clear p6
              try clear c9
              try clear c9b0
              try clear c10
              try clear c10b0
              try clear p10
              try clear q10
              try clear hx10
              try clear c12
              try clear c13
              try clear c14
              try clear hx1085_0
              try clear p1085
              try clear p2
              try clear q1085
              obtain ⟨x8_2, rfl, HA, HK2, HO_5, HO_6, HB⟩ := hrel
              cases gk with
              | zero => exact absurd HA.out (by simp [althingref04_Join.l1])
              | succ k2 =>
               have H := HA.out
               clear HA
               simp only [althingref04_Join.l1] at H
               by_cases c17 : x8_2 < (x5_1.length : Int)
               · rw [if_pos c17] at H
                 have c17b0 : decide (x8_2 < (x5_1.length : Int)) = true := decide_eq_true c17
                 clear c17
                 by_cases c18 : 0 ≤ x8_2
                 · rw [if_pos c18] at H
                   have c18b0 : decide (0 ≤ x8_2) = true := decide_eq_true c18
                   clear c18
                   by_cases c19 : 0 ≤ x7_1
                   · rw [if_pos c19] at H
                     have c19b0 : decide (0 ≤ x7_1) = true := decide_eq_true c19
                     clear c19
                     by_cases c20 : x7_1 < (y1082.length : Int)
                     · rw [if_pos c20] at H
                       have c20b0 : decide (x7_1 < (y1082.length : Int)) = true := decide_eq_true c20
                       clear c20
                       obtain ⟨t1089, A21, H⟩ := bs_ H
                       by_cases c22 : t1089 = true
                       · subst c22
                         rw [if_pos rfl] at H
                         have H' := Aside0.mk H
                         clear H
                         try go_wp2
                         have n0_ := Aside0.mk (Kd.R_drew HO_5.out)
                         have n1_ := Aside0.mk (Kd.R_drew HO_6.out)
                         have n2_ := Aside0.mk (below_drew1 HB.out)
                         clear HO_5 HO_6 HB
                         have HO_5 := n0_; have HO_6 := n1_; have HB := n2_
                         clear n0_ n1_ n2_
                         have p1087 : 0 ≤ (x8_2 : Int) := of_decide_eq_true (by first | (with_reducible assumption) | assumption)
                         have q1087 : x8_2 < (x5_1.length : Int) := of_decide_eq_true (by first | (with_reducible assumption) | assumption)
                         obtain ⟨ad1087, e1087, hx1087_0⟩ := Kd.at_string (Kd.R_reads' HO_5.out).2.2 x8_2 p1087 q1087
                         cases e1087
                         replace p1087 := eq_true p1087
                         replace q1087 := eq_true q1087
                         have p1088 : 0 ≤ (x7_1 : Int) := of_decide_eq_true (by first | (with_reducible assumption) | assumption)
                         have q1088 : x7_1 < (y1082.length : Int) := of_decide_eq_true (by first | (with_reducible assumption) | assumption)
                         obtain ⟨ad1088, e1088, hx1088_0⟩ := Kd.at_string (Kd.R_reads' HO_6.out).2.2 x7_1 p1088 q1088
                         obtain rfl : ad1085 = ad1088 := (by injection e1088)
                         replace p1088 := eq_true p1088
                         replace q1088 := eq_true q1088
                         refine start_ (n := 15) (S := fun w' => w'.cell? (ad1087.add (x8_2).toNat) = some (.string (rdOf ByteArray.empty x5_1 x8_2)) ∧ w'.cell? (ad1085.add (x7_1).toNat) = some (.string (rdOf ByteArray.empty y1082 x7_1))) (ds := []) #[false, false, false, false, false, false, false, false, false, false, false, false, false, false, false] (by kernel_rfl) rfl rfl ⟨hx1087_0, hx1088_0⟩ (fun hHeld => ?_); refine with_tabW althingref04_Join.tab8 althingref04_Join.bits8 (fun HT_ HW_ => ?_)
                         generalize wr.drew = w23 at HO_5 HO_6 HB hx1087_0 hx1088_0 hHeld ⊢
                         refine pure_ (i := 0) (N := some 27) (v := ?_) (a' := ?_) #[true, false, false, false, false, false, false, false, false, false, false, false, false, false, false] rfl rfl (any_of HT_.out (by kernel_rfl)) (fun _ _ _ h => h) (Or.inl ⟨by rfl, ?_⟩) ?_ ?_
                         rotate_left
                         · intro w'
                           go_simp
                           with_reducible rfl
                         rotate_left
                         · simp only [Act.put, List.setIfInBounds_toArray, List.set_cons_zero, List.set_cons_succ, i64_w, i32_w]
                           rfl
                         refine pure_ (i := 1) (N := some 28) (v := ?_) (a' := ?_) #[true, true, false, false, false, false, false, false, false, false, false, false, false, false, false] rfl rfl (any_of HT_.out (by kernel_rfl)) (fun _ _ _ h => h) (Or.inl ⟨by rfl, ?_⟩) ?_ ?_
                         rotate_left
                         · intro w'
                           go_simp
                           with_reducible rfl
                         rotate_left
                         · simp only [Act.put, List.setIfInBounds_toArray, List.set_cons_zero, List.set_cons_succ, i64_w, i32_w]
                           rfl
                         refine pure_ (i := 2) (N := some 29) (v := ?_) (a' := ?_) #[true, true, true, false, false, false, false, false, false, false, false, false, false, false, false] rfl rfl (any_of HT_.out (by kernel_rfl)) (fun _ _ _ h => h) (Or.inl ⟨by rfl, ?_⟩) ?_ ?_
                         rotate_left
                         · intro w'
                           go_simp
                           with_reducible rfl
                         rotate_left
                         · simp only [Act.put, List.setIfInBounds_toArray, List.set_cons_zero, List.set_cons_succ, i64_w, i32_w]
                           rfl
                         refine pure_ (i := 3) (N := some 30) (v := ?_) (a' := ?_) #[true, true, true, true, false, false, false, false, false, false, false, false, false, false, false] rfl rfl (any_of HT_.out (by kernel_rfl)) (fun _ _ _ h => h) (Or.inl ⟨by rfl, ?_⟩) ?_ ?_
                         rotate_left
                         · intro w'
                           go_simp
                           with_reducible rfl
                         rotate_left
                         · simp only [Act.put, List.setIfInBounds_toArray, List.set_cons_zero, List.set_cons_succ, i64_w, i32_w]
                           rfl
                         refine pure_ (i := 4) (N := some 31) (v := ?_) (a' := ?_) #[true, true, true, true, true, false, false, false, false, false, false, false, false, false, false] rfl rfl (any_of HT_.out (by kernel_rfl)) (fun _ _ _ h => h) (Or.inl ⟨by rfl, ?_⟩) ?_ ?_
                         rotate_left
                         · intro w'
                           go_simp
                           with_reducible rfl
                         rotate_left
                         · simp only [Act.put, List.setIfInBounds_toArray, List.set_cons_zero, List.set_cons_succ, i64_w, i32_w]
                           rfl
                         refine pure_ (i := 5) (N := some 32) (v := ?_) (a' := ?_) #[true, true, true, true, true, true, false, false, false, false, false, false, false, false, false] rfl rfl (any_of HT_.out (by kernel_rfl)) (fun _ _ _ h => h) (Or.inl ⟨by rfl, ?_⟩) ?_ ?_
                         rotate_left
                         · intro w'
                           go_simp
                           with_reducible rfl
                         rotate_left
                         · simp only [Act.put, List.setIfInBounds_toArray, List.set_cons_zero, List.set_cons_succ, i64_w, i32_w]
                           rfl
                         refine pure_ (i := 6) (N := some 33) (v := ?_) (a' := ?_) #[true, true, true, true, true, true, true, false, false, false, false, false, false, false, false] rfl rfl (any_of HT_.out (by kernel_rfl)) (fun _ _ _ h => h) (Or.inl ⟨by rfl, ?_⟩) ?_ ?_
                         rotate_left
                         · intro w'
                           go_simp
                           with_reducible rfl
                         rotate_left
                         · simp only [Act.put, List.setIfInBounds_toArray, List.set_cons_zero, List.set_cons_succ, i64_w, i32_w]
                           rfl
                         refine pure_ (i := 7) (N := some 34) (v := ?_) (a' := ?_) #[true, true, true, true, true, true, true, true, false, false, false, false, false, false, false] rfl rfl (any_of HT_.out (by kernel_rfl)) (fun _ _ _ h => h) (Or.inl ⟨by rfl, ?_⟩) ?_ ?_
                         rotate_left
                         · intro w'
                           go_simp
                           with_reducible rfl
                         rotate_left
                         · simp only [Act.put, List.setIfInBounds_toArray, List.set_cons_zero, List.set_cons_succ, i64_w, i32_w]
                           rfl
                         refine pure_ (i := 9) (N := some 36) (v := ?_) (a' := ?_) #[true, true, true, true, true, true, true, true, false, true, false, false, false, false, false] rfl rfl (any_of HT_.out (by kernel_rfl)) (fun _ _ _ h => h) (Or.inl ⟨by rfl, ?_⟩) ?_ ?_
                         rotate_left
                         · intro w'
                           go_simp
                           with_reducible rfl
                         rotate_left
                         · simp only [Act.put, List.setIfInBounds_toArray, List.set_cons_zero, List.set_cons_succ, i64_w, i32_w]
                           rfl
                         refine pure_ (i := 10) (N := some 37) (v := ?_) (a' := ?_) #[true, true, true, true, true, true, true, true, false, true, true, false, false, false, false] rfl rfl (any_of HT_.out (by kernel_rfl)) (fun _ _ _ h => h) (Or.inl ⟨by rfl, ?_⟩) ?_ ?_
                         rotate_left
                         · intro w'
                           go_simp
                           with_reducible rfl
                         rotate_left
                         · simp only [Act.put, List.setIfInBounds_toArray, List.set_cons_zero, List.set_cons_succ, i64_w, i32_w]
                           rfl
                         refine pure_ (i := 11) (N := some 38) (v := ?_) (a' := ?_) #[true, true, true, true, true, true, true, true, false, true, true, true, false, false, false] rfl rfl (any_of HT_.out (by kernel_rfl)) (fun _ _ _ h => h) (Or.inl ⟨by rfl, ?_⟩) ?_ ?_
                         rotate_left
                         · intro w'
                           go_simp
                           with_reducible rfl
                         rotate_left
                         · simp only [Act.put, List.setIfInBounds_toArray, List.set_cons_zero, List.set_cons_succ, i64_w, i32_w]
                           rfl
                         refine take_ (i := 8) (N := some 35) (v := ?_) (a' := ?_) #[true, true, true, true, true, true, true, true, true, true, true, true, false, false, false] rfl rfl (take_ofW HT_.out HW_.out (by kernel_rfl)) (fun _ _ _ h => h) (Or.inl ⟨by rfl, ?_⟩) hHeld ?_ ?_
                         rotate_left
                         · rintro w' ⟨s0, s1⟩
                           go_simp
                           with_reducible rfl
                         rotate_left
                         · simp only [Act.put, List.setIfInBounds_toArray, List.set_cons_zero, List.set_cons_succ, i64_w, i32_w]
                           rfl
                         refine take_ (i := 12) (N := some 39) (v := ?_) (a' := ?_) #[true, true, true, true, true, true, true, true, true, true, true, true, true, false, false] rfl rfl (take_ofW HT_.out HW_.out (by kernel_rfl)) (fun _ _ _ h => h) (Or.inl ⟨by rfl, ?_⟩) hHeld ?_ ?_
                         rotate_left
                         · rintro w' ⟨s0, s1⟩
                           go_simp
                           with_reducible rfl
                         rotate_left
                         · simp only [Act.put, List.setIfInBounds_toArray, List.set_cons_zero, List.set_cons_succ, i64_w, i32_w]
                           rfl
                         refine one_ (i := 13) (N := some 40) #[true, true, true, true, true, true, true, true, true, true, true, true, true, true, false] rfl rfl (one_of HT_.out (by kernel_rfl)) (by decide) (fun K hK => ?_)
                         refine goes_ Tryz.func118 (by kernel_rfl) rfl #[.string (rdOf ByteArray.empty x5_1 x8_2), .string (rdOf ByteArray.empty y1082 x7_1)] (by rfl) rfl rfl (by (try simp only [List.map_toArray, List.map_cons, List.map_nil]); first | done | rfl | (simp only [List.length_drop, List.length_take]; rfl)) ?_
                         with_reducible refine (althingref04_Before.calls k2 (rdOf ByteArray.empty x5_1 x8_2) (rdOf ByteArray.empty y1082 x7_1) true _ A21.out).mono ?_
                         rintro e w' ⟨rfl, ⟨nd, rfl⟩⟩
                         refine ⟨_, rfl, ?_⟩
                         refine hK.out _ _ ⟨hHeld.1, hHeld.2⟩ (fun hHeld => ?_)
                         clear hK K
                         refine norm_ (a' := ?_) ?_ ?_
                         rotate_left
                         · show Act.put _ (some 40) _ = _
                           simp only [Act.put, List.setIfInBounds_toArray, List.set_cons_zero, List.set_cons_succ, i64_w, i32_w]
                           rfl
                         refine pure_ (i := 14) (N := some 41) (v := ?_) (a' := ?_) #[true, true, true, true, true, true, true, true, true, true, true, true, true, true, true] rfl rfl (any_of HT_.out (by kernel_rfl)) (fun _ _ _ h => h) (Or.inl ⟨by rfl, ?_⟩) ?_ ?_
                         rotate_left
                         · intro w'
                           go_simp
                           with_reducible rfl
                         rotate_left
                         · simp only [Act.put, List.setIfInBounds_toArray, List.set_cons_zero, List.set_cons_succ, i64_w, i32_w]
                           rfl
                         refine done_ (done_of HT_.out (by kernel_rfl)) ?_
                         try go_wp2
                         go_roundg k2
                         case measure => have := HK1.out; have := HK2.out; omega
                         case rel => exact ⟨(wrap64 (x8_2 + 1)), (by first | rfl | (simp; done) | (simp [*]; done)), H', ⟨by have := HK1.out; have := HK2.out; omega⟩, ⟨by (with_reducible repeat (first | apply Kd.R_alloc | apply Kd.R_drewN | apply Kd.R_drew)); exact HO_5.out⟩, ⟨by (with_reducible repeat (first | apply Kd.R_alloc | apply Kd.R_drewN | apply Kd.R_drew)); exact HO_6.out⟩, ⟨by repeat (first | (with_reducible first | exact HB.out | apply below_alloc | apply pw_below_drewN | apply below_drew1) | exact HB.out)⟩⟩
                       · replace c22 := Bool.eq_false_iff.mpr c22
                         subst c22
                         rw [if_neg (show ¬ (false = true) by decide)] at H
                         obtain ⟨y1090, hy1090⟩ : ∃ y_ : List ByteArray, y_ = (([] : List ByteArray)) := ⟨_, rfl⟩
                         replace H : (if x8_2 ≤ (x5_1.length : Int) then ((some (x5_1.drop (x8_2 : Int).toNat : List ByteArray)).bind fun y1093 => (if y1090.length + y1093.length < 8796093022208 then ((some (y1090 ++ y1093 : List ByteArray)).bind fun y1097 => ((some (x5_1.take (x8_2 : Int).toNat : List ByteArray)).bind fun y1100 => (if y1100.length < 8796093022208 then ((some (y1100 ++ [rdOf ByteArray.empty y1082 x7_1] : List ByteArray)).bind fun y1104 => (if y1104.length + y1097.length < 8796093022208 then (althingref04_Join.l0 k2 (y1104 ++ y1097) y1082 (wrap64 (x7_1 + 1))) else (none))) else (none)))) else (none))) else (none)) = some r := by first | (rw [hy1090]; with_reducible exact H) | (have H2_ := (Option.bind_some _ _).symm.trans H; rw [hy1090]; with_reducible exact H2_) | (have H2_ := (Option.bind_some _ _).symm.trans H; with_reducible exact H2_) | with_reducible exact H | (rw [hy1090]; exact H) | exact H
                         have Ny1090 := Aside0.mk hy1090
                         clear hy1090
                         have c24b0 := eq_true (of_decide_eq_true (by first | (with_reducible assumption) | assumption) : 0 ≤ x8_2)
                         by_cases c25 : x8_2 ≤ (x5_1.length : Int)
                         · rw [if_pos c25] at H
                           have c25b0 := eq_true c25
                           have c25b1 : decide (x8_2 ≤ (x5_1.length : Int)) = true := decide_eq_true c25
                           clear c25
                           obtain ⟨y1093, hy1093⟩ : ∃ y_ : List ByteArray, y_ = (x5_1.drop (x8_2 : Int).toNat) := ⟨_, rfl⟩
                           replace H : (if y1090.length + y1093.length < 8796093022208 then ((some (y1090 ++ y1093 : List ByteArray)).bind fun y1097 => ((some (x5_1.take (x8_2 : Int).toNat : List ByteArray)).bind fun y1100 => (if y1100.length < 8796093022208 then ((some (y1100 ++ [rdOf ByteArray.empty y1082 x7_1] : List ByteArray)).bind fun y1104 => (if y1104.length + y1097.length < 8796093022208 then (althingref04_Join.l0 k2 (y1104 ++ y1097) y1082 (wrap64 (x7_1 + 1))) else (none))) else (none)))) else (none)) = some r := by first | (rw [hy1093]; with_reducible exact H) | (have H2_ := (Option.bind_some _ _).symm.trans H; rw [hy1093]; with_reducible exact H2_) | (have H2_ := (Option.bind_some _ _).symm.trans H; with_reducible exact H2_) | with_reducible exact H | (rw [hy1093]; exact H) | exact H
                           have Ny1093 := Aside0.mk hy1093
                           clear hy1093
                           by_cases c26 : y1090.length + y1093.length < 8796093022208
                           · rw [if_pos c26] at H
                             have LMc26 := Aside0.mk c26
                             clear c26
                             obtain ⟨y1097, hy1097⟩ : ∃ y_ : List ByteArray, y_ = (y1090 ++ y1093) := ⟨_, rfl⟩
                             replace H : ((some (x5_1.take (x8_2 : Int).toNat : List ByteArray)).bind fun y1100 => (if y1100.length < 8796093022208 then ((some (y1100 ++ [rdOf ByteArray.empty y1082 x7_1] : List ByteArray)).bind fun y1104 => (if y1104.length + y1097.length < 8796093022208 then (althingref04_Join.l0 k2 (y1104 ++ y1097) y1082 (wrap64 (x7_1 + 1))) else (none))) else (none))) = some r := by first | (rw [hy1097]; with_reducible exact H) | (have H2_ := (Option.bind_some _ _).symm.trans H; rw [hy1097]; with_reducible exact H2_) | (have H2_ := (Option.bind_some _ _).symm.trans H; with_reducible exact H2_) | with_reducible exact H | (rw [hy1097]; exact H) | exact H
                             have Ny1097 := Aside0.mk hy1097
                             clear hy1097
                             have c27b0 := eq_true (of_decide_eq_true (by first | (with_reducible assumption) | assumption) : x8_2 ≤ (x5_1.length : Int))
                             obtain ⟨y1100, hy1100⟩ : ∃ y_ : List ByteArray, y_ = (x5_1.take (x8_2 : Int).toNat) := ⟨_, rfl⟩
                             replace H : (if y1100.length < 8796093022208 then ((some (y1100 ++ [rdOf ByteArray.empty y1082 x7_1] : List ByteArray)).bind fun y1104 => (if y1104.length + y1097.length < 8796093022208 then (althingref04_Join.l0 k2 (y1104 ++ y1097) y1082 (wrap64 (x7_1 + 1))) else (none))) else (none)) = some r := by first | (rw [hy1100]; with_reducible exact H) | (have H2_ := (Option.bind_some _ _).symm.trans H; rw [hy1100]; with_reducible exact H2_) | (have H2_ := (Option.bind_some _ _).symm.trans H; with_reducible exact H2_) | with_reducible exact H | (rw [hy1100]; exact H) | exact H
                             have Ny1100 := Aside0.mk hy1100
                             clear hy1100
                             by_cases c28 : y1100.length < 8796093022208
                             · rw [if_pos c28] at H
                               have LMc28 := Aside0.mk c28
                               clear c28
                               obtain ⟨y1104, hy1104⟩ : ∃ y_ : List ByteArray, y_ = (y1100 ++ [rdOf ByteArray.empty y1082 x7_1]) := ⟨_, rfl⟩
                               replace H : (if y1104.length + y1097.length < 8796093022208 then (althingref04_Join.l0 k2 (y1104 ++ y1097) y1082 (wrap64 (x7_1 + 1))) else (none)) = some r := by first | (rw [hy1104]; with_reducible exact H) | (have H2_ := (Option.bind_some _ _).symm.trans H; rw [hy1104]; with_reducible exact H2_) | (have H2_ := (Option.bind_some _ _).symm.trans H; with_reducible exact H2_) | with_reducible exact H | (rw [hy1104]; exact H) | exact H
                               have Ny1104 := Aside0.mk hy1104
                               clear hy1104
                               by_cases c29 : y1104.length + y1097.length < 8796093022208
                               · rw [if_pos c29] at H
                                 have LMc29 := Aside0.mk c29
                                 clear c29
                                 obtain ⟨y1107, hy1107⟩ : ∃ y_ : List ByteArray, y_ = (y1104 ++ y1097) := ⟨_, rfl⟩
                                 replace H : (althingref04_Join.l0 k2 y1107 y1082 (wrap64 (x7_1 + 1))) = some r := by first | (rw [hy1107]; with_reducible exact H) | (have H2_ := (Option.bind_some _ _).symm.trans H; rw [hy1107]; with_reducible exact H2_) | (have H2_ := (Option.bind_some _ _).symm.trans H; with_reducible exact H2_) | with_reducible exact H | (rw [hy1107]; exact H) | exact H
                                 have Ny1107 := Aside0.mk hy1107
                                 clear hy1107
                                 have H' := Aside0.mk H
                                 clear H
                                 try go_wp2
                                 have n0_ := Aside0.mk (Kd.R_drew HO_5.out)
                                 have n1_ := Aside0.mk (Kd.R_drew HO_6.out)
                                 have n2_ := Aside0.mk (below_drew1 HB.out)
                                 clear HO_5 HO_6 HB
                                 have HO_5 := n0_; have HO_6 := n1_; have HB := n2_
                                 clear n0_ n1_ n2_
                                 have p1087 : 0 ≤ (x8_2 : Int) := of_decide_eq_true (by first | (with_reducible assumption) | assumption)
                                 have q1087 : x8_2 < (x5_1.length : Int) := of_decide_eq_true (by first | (with_reducible assumption) | assumption)
                                 obtain ⟨ad1087, e1087, hx1087_0⟩ := Kd.at_string (Kd.R_reads' HO_5.out).2.2 x8_2 p1087 q1087
                                 cases e1087
                                 replace p1087 := eq_true p1087
                                 replace q1087 := eq_true q1087
                                 have p1088 : 0 ≤ (x7_1 : Int) := of_decide_eq_true (by first | (with_reducible assumption) | assumption)
                                 have q1088 : x7_1 < (y1082.length : Int) := of_decide_eq_true (by first | (with_reducible assumption) | assumption)
                                 obtain ⟨ad1088, e1088, hx1088_0⟩ := Kd.at_string (Kd.R_reads' HO_6.out).2.2 x7_1 p1088 q1088
                                 obtain rfl : ad1085 = ad1088 := (by injection e1088)
                                 replace p1088 := eq_true p1088
                                 replace q1088 := eq_true q1088
                                 refine start_ (n := 15) (S := fun w' => w'.cell? (ad1087.add (x8_2).toNat) = some (.string (rdOf ByteArray.empty x5_1 x8_2)) ∧ w'.cell? (ad1085.add (x7_1).toNat) = some (.string (rdOf ByteArray.empty y1082 x7_1))) (ds := []) #[false, false, false, false, false, false, false, false, false, false, false, false, false, false, false] (by kernel_rfl) rfl rfl ⟨hx1087_0, hx1088_0⟩ (fun hHeld => ?_); refine with_tabW althingref04_Join.tab8 althingref04_Join.bits8 (fun HT_ HW_ => ?_)
                                 generalize wr.drew = w30 at HO_5 HO_6 HB hx1087_0 hx1088_0 hHeld ⊢
                                 refine pure_ (i := 0) (N := some 27) (v := ?_) (a' := ?_) #[true, false, false, false, false, false, false, false, false, false, false, false, false, false, false] rfl rfl (any_of HT_.out (by kernel_rfl)) (fun _ _ _ h => h) (Or.inl ⟨by rfl, ?_⟩) ?_ ?_
                                 rotate_left
                                 · intro w'
                                   go_simp
                                   with_reducible rfl
                                 rotate_left
                                 · simp only [Act.put, List.setIfInBounds_toArray, List.set_cons_zero, List.set_cons_succ, i64_w, i32_w]
                                   rfl
                                 refine pure_ (i := 1) (N := some 28) (v := ?_) (a' := ?_) #[true, true, false, false, false, false, false, false, false, false, false, false, false, false, false] rfl rfl (any_of HT_.out (by kernel_rfl)) (fun _ _ _ h => h) (Or.inl ⟨by rfl, ?_⟩) ?_ ?_
                                 rotate_left
                                 · intro w'
                                   go_simp
                                   with_reducible rfl
                                 rotate_left
                                 · simp only [Act.put, List.setIfInBounds_toArray, List.set_cons_zero, List.set_cons_succ, i64_w, i32_w]
                                   rfl
                                 refine pure_ (i := 2) (N := some 29) (v := ?_) (a' := ?_) #[true, true, true, false, false, false, false, false, false, false, false, false, false, false, false] rfl rfl (any_of HT_.out (by kernel_rfl)) (fun _ _ _ h => h) (Or.inl ⟨by rfl, ?_⟩) ?_ ?_
                                 rotate_left
                                 · intro w'
                                   go_simp
                                   with_reducible rfl
                                 rotate_left
                                 · simp only [Act.put, List.setIfInBounds_toArray, List.set_cons_zero, List.set_cons_succ, i64_w, i32_w]
                                   rfl
                                 refine pure_ (i := 3) (N := some 30) (v := ?_) (a' := ?_) #[true, true, true, true, false, false, false, false, false, false, false, false, false, false, false] rfl rfl (any_of HT_.out (by kernel_rfl)) (fun _ _ _ h => h) (Or.inl ⟨by rfl, ?_⟩) ?_ ?_
                                 rotate_left
                                 · intro w'
                                   go_simp
                                   with_reducible rfl
                                 rotate_left
                                 · simp only [Act.put, List.setIfInBounds_toArray, List.set_cons_zero, List.set_cons_succ, i64_w, i32_w]
                                   rfl
                                 refine pure_ (i := 4) (N := some 31) (v := ?_) (a' := ?_) #[true, true, true, true, true, false, false, false, false, false, false, false, false, false, false] rfl rfl (any_of HT_.out (by kernel_rfl)) (fun _ _ _ h => h) (Or.inl ⟨by rfl, ?_⟩) ?_ ?_
                                 rotate_left
                                 · intro w'
                                   go_simp
                                   with_reducible rfl
                                 rotate_left
                                 · simp only [Act.put, List.setIfInBounds_toArray, List.set_cons_zero, List.set_cons_succ, i64_w, i32_w]
                                   rfl
                                 refine pure_ (i := 5) (N := some 32) (v := ?_) (a' := ?_) #[true, true, true, true, true, true, false, false, false, false, false, false, false, false, false] rfl rfl (any_of HT_.out (by kernel_rfl)) (fun _ _ _ h => h) (Or.inl ⟨by rfl, ?_⟩) ?_ ?_
                                 rotate_left
                                 · intro w'
                                   go_simp
                                   with_reducible rfl
                                 rotate_left
                                 · simp only [Act.put, List.setIfInBounds_toArray, List.set_cons_zero, List.set_cons_succ, i64_w, i32_w]
                                   rfl
                                 refine pure_ (i := 6) (N := some 33) (v := ?_) (a' := ?_) #[true, true, true, true, true, true, true, false, false, false, false, false, false, false, false] rfl rfl (any_of HT_.out (by kernel_rfl)) (fun _ _ _ h => h) (Or.inl ⟨by rfl, ?_⟩) ?_ ?_
                                 rotate_left
                                 · intro w'
                                   go_simp
                                   with_reducible rfl
                                 rotate_left
                                 · simp only [Act.put, List.setIfInBounds_toArray, List.set_cons_zero, List.set_cons_succ, i64_w, i32_w]
                                   rfl
                                 refine pure_ (i := 7) (N := some 34) (v := ?_) (a' := ?_) #[true, true, true, true, true, true, true, true, false, false, false, false, false, false, false] rfl rfl (any_of HT_.out (by kernel_rfl)) (fun _ _ _ h => h) (Or.inl ⟨by rfl, ?_⟩) ?_ ?_
                                 rotate_left
                                 · intro w'
                                   go_simp
                                   with_reducible rfl
                                 rotate_left
                                 · simp only [Act.put, List.setIfInBounds_toArray, List.set_cons_zero, List.set_cons_succ, i64_w, i32_w]
                                   rfl
                                 refine pure_ (i := 9) (N := some 36) (v := ?_) (a' := ?_) #[true, true, true, true, true, true, true, true, false, true, false, false, false, false, false] rfl rfl (any_of HT_.out (by kernel_rfl)) (fun _ _ _ h => h) (Or.inl ⟨by rfl, ?_⟩) ?_ ?_
                                 rotate_left
                                 · intro w'
                                   go_simp
                                   with_reducible rfl
                                 rotate_left
                                 · simp only [Act.put, List.setIfInBounds_toArray, List.set_cons_zero, List.set_cons_succ, i64_w, i32_w]
                                   rfl
                                 refine pure_ (i := 10) (N := some 37) (v := ?_) (a' := ?_) #[true, true, true, true, true, true, true, true, false, true, true, false, false, false, false] rfl rfl (any_of HT_.out (by kernel_rfl)) (fun _ _ _ h => h) (Or.inl ⟨by rfl, ?_⟩) ?_ ?_
                                 rotate_left
                                 · intro w'
                                   go_simp
                                   with_reducible rfl
                                 rotate_left
                                 · simp only [Act.put, List.setIfInBounds_toArray, List.set_cons_zero, List.set_cons_succ, i64_w, i32_w]
                                   rfl
                                 refine pure_ (i := 11) (N := some 38) (v := ?_) (a' := ?_) #[true, true, true, true, true, true, true, true, false, true, true, true, false, false, false] rfl rfl (any_of HT_.out (by kernel_rfl)) (fun _ _ _ h => h) (Or.inl ⟨by rfl, ?_⟩) ?_ ?_
                                 rotate_left
                                 · intro w'
                                   go_simp
                                   with_reducible rfl
                                 rotate_left
                                 · simp only [Act.put, List.setIfInBounds_toArray, List.set_cons_zero, List.set_cons_succ, i64_w, i32_w]
                                   rfl
                                 refine take_ (i := 8) (N := some 35) (v := ?_) (a' := ?_) #[true, true, true, true, true, true, true, true, true, true, true, true, false, false, false] rfl rfl (take_ofW HT_.out HW_.out (by kernel_rfl)) (fun _ _ _ h => h) (Or.inl ⟨by rfl, ?_⟩) hHeld ?_ ?_
                                 rotate_left
                                 · rintro w' ⟨s0, s1⟩
                                   go_simp
                                   with_reducible rfl
                                 rotate_left
                                 · simp only [Act.put, List.setIfInBounds_toArray, List.set_cons_zero, List.set_cons_succ, i64_w, i32_w]
                                   rfl
                                 refine take_ (i := 12) (N := some 39) (v := ?_) (a' := ?_) #[true, true, true, true, true, true, true, true, true, true, true, true, true, false, false] rfl rfl (take_ofW HT_.out HW_.out (by kernel_rfl)) (fun _ _ _ h => h) (Or.inl ⟨by rfl, ?_⟩) hHeld ?_ ?_
                                 rotate_left
                                 · rintro w' ⟨s0, s1⟩
                                   go_simp
                                   with_reducible rfl
                                 rotate_left
                                 · simp only [Act.put, List.setIfInBounds_toArray, List.set_cons_zero, List.set_cons_succ, i64_w, i32_w]
                                   rfl
                                 refine one_ (i := 13) (N := some 40) #[true, true, true, true, true, true, true, true, true, true, true, true, true, true, false] rfl rfl (one_of HT_.out (by kernel_rfl)) (by decide) (fun K hK => ?_)
                                 refine goes_ Tryz.func118 (by kernel_rfl) rfl #[.string (rdOf ByteArray.empty x5_1 x8_2), .string (rdOf ByteArray.empty y1082 x7_1)] (by rfl) rfl rfl (by (try simp only [List.map_toArray, List.map_cons, List.map_nil]); first | done | rfl | (simp only [List.length_drop, List.length_take]; rfl)) ?_
                                 with_reducible refine (althingref04_Before.calls k2 (rdOf ByteArray.empty x5_1 x8_2) (rdOf ByteArray.empty y1082 x7_1) false _ A21.out).mono ?_
                                 rintro e w' ⟨rfl, ⟨nd, rfl⟩⟩
                                 refine ⟨_, rfl, ?_⟩
                                 refine hK.out _ _ ⟨hHeld.1, hHeld.2⟩ (fun hHeld => ?_)
                                 clear hK K
                                 refine norm_ (a' := ?_) ?_ ?_
                                 rotate_left
                                 · show Act.put _ (some 40) _ = _
                                   simp only [Act.put, List.setIfInBounds_toArray, List.set_cons_zero, List.set_cons_succ, i64_w, i32_w]
                                   rfl
                                 refine pure_ (i := 14) (N := some 41) (v := ?_) (a' := ?_) #[true, true, true, true, true, true, true, true, true, true, true, true, true, true, true] rfl rfl (any_of HT_.out (by kernel_rfl)) (fun _ _ _ h => h) (Or.inl ⟨by rfl, ?_⟩) ?_ ?_
                                 rotate_left
                                 · intro w'
                                   go_simp
                                   with_reducible rfl
                                 rotate_left
                                 · simp only [Act.put, List.setIfInBounds_toArray, List.set_cons_zero, List.set_cons_succ, i64_w, i32_w]
                                   rfl
                                 refine done_ (done_of HT_.out (by kernel_rfl)) ?_
                                 try go_wp2_with (first | ((with_reducible refine gate_dst (N := 44) rfl ?_); refine Kd.R_lit Kd.string _ 9 ?hg (N := 44) ?hd (xs := ([] : List ByteArray)) (inner := []) (ok := fun _ => True) (okp := fun _ => True) ?hr ?hp (fun _ hk => hk) trivial (Below.refl _ _) (Nat.le_refl _) (by simp) ?_; (case hd => rfl); (case hg => rfl); (case hr => first | (go_simp; done) | (go_simp; rfl)); (case hp => exact (Reps.none _ _)); intro v1091 w31 ho32 hb hg_ hnew_; clear hg_ hnew_; (first | rw [← Ny1090.out] at ho32 | (simp only [Int.reduceToNat] at ho32; rw [← Ny1090.out] at ho32)); have n0_ := Aside0.mk (Kd.R_elder' (kr_ HO_5.out) (Kd.R_base ho32) hb); have n1_ := Aside0.mk (Kd.R_elder' (kr_ HO_6.out) (Kd.R_base ho32) hb); have n2_ := Aside0.mk (Kd.R_lower (Kd.R_new' (Kd.R_new' ho32 (Kd.R_lt (kr_ HO_5.out))) (Kd.R_lt (kr_ HO_6.out))) (below_size lb_)); have n3_ := Aside0.mk (below_step lb_ hb); clear HO_5 HO_6 HB; have HO_5 := n0_; have HO_6 := n1_; have HO1092 := n2_; have HB := n3_; clear n0_ n1_ n2_ n3_ hb ho32; have q33 : (x8_2 : Int) ≤ ((x5_1.length : Int) : Int) := of_decide_eq_true (by first | (with_reducible assumption) | assumption); obtain ⟨i033, hi033, _, hsz33, _⟩ := info_parts info9; have hroom33 : x5_1.length ≤ co16 := (Kd.R_reads' HO_5.out).2.1; have hC33 : Kd.C Kd.string _ (some ad1087) x5_1.length x5_1 := (Kd.R_reads' HO_5.out).2.2; have q033 : (0 : Int) ≤ (x8_2 : Int) := of_decide_eq_true (by first | (with_reducible assumption) | assumption); have hcut33 := cut_from (P := Tryz.prog) 131 9 .i64 Tryz.underlying131 hi033 1 hsz33 (some ad1087) x5_1.length co16 x8_2 q033 q33; have hr33 := Kd.C_drop (m := (x8_2 : Int).toNat) (c := co16) hC33 (by omega) hroom33; obtain ⟨A33, hA33⟩ : ∃ A1, A1 = (if co16 = (x8_2 : Int).toNat then (some ad1087) else ((some ad1087) : Option Addr).map (·.add ((x8_2 : Int).toNat * 1))) := ⟨_, rfl⟩; obtain ⟨c33, hc33⟩ : ∃ c1, c1 = co16 - (x8_2 : Int).toNat := ⟨_, rfl⟩; have hy33 : y1093.length = x5_1.length - (x8_2 : Int).toNat := (by rw [Ny1093.out, List.length_drop] <;> omega); rw [show (x5_1).drop (x8_2 : Int).toNat = y1093 from Ny1093.out.symm] at hr33; replace hr33 : Kd.C Kd.string _ A33 y1093.length y1093 := (by rw [hA33]; exact hr33); rw [← hy33, ← hA33, ← hc33] at hcut33; have HR1096 := Aside0.mk hr33; have HC1096 := Aside0.mk (show y1093.length ≤ c33 from by rw [hy33, hc33]; exact Nat.sub_le_sub_right hroom33 _); clear hr33 hC33 hroom33 hi033 hsz33 hc33; have KY33 := Aside0.mk hy33; have KA33 := Aside0.mk hA33; clear hy33 hA33; have KL33 := Aside0.mk (show (x8_2 : Int).toNat ≤ x5_1.length from by omega); replace q33 := eq_true q33) | ((with_reducible refine gate_builtin (b := .append) (xs := #[.tmp 44, .tmp 47]) rfl ?_); at_builtin; refine Kd.R_append_rows Kd.string (w0 := w) w.heap.size rfl (.tmp 44) (.tmp 47) 131 9 (.string ⟨#[]⟩) 16 rfl Tryz.underlying131 info9 rfl (by decide) (by omega) v1091 y1090 y1093 _ _ _ (fun k_ => some k_ ≠ (.slice (some ad1087) x5_1.length co16 : Value).ownBlock ∧ some k_ ≠ (.slice (some ad1085) y1082.length co15 : Value).ownBlock) (fun _ => False) rfl rfl ?aO ?aR (fun _ _ h => h) (fun _ h => h.elim) ?aF ?aB ?aS ?aL ?_; (case aR => repeat (first | exact (by repeat (first | (with_reducible exact HR1096.out) | (with_reducible refine Kd.C_alloc ?_ _) | (with_reducible refine Kd.C_drewN ?_ _) | (with_reducible refine Kd.C_drew ?_) | exact HR1096.out)) | (with_reducible refine Kd.C_alloc ?_ _) | (with_reducible refine Kd.C_drewN ?_ _) | (with_reducible refine Kd.C_drew ?_))); (case aB => exact lb_); (case aF => exact (fun k_ hk => ⟨Kd.fresh' (Kd.R_lt (kr_ HO_5.out)) k_ hk, Kd.fresh' (Kd.R_lt (kr_ HO_6.out)) k_ hk⟩)); (case aO => exact (by (with_reducible repeat (first | apply Kd.R_alloc | apply Kd.R_drewN | apply Kd.R_drew)); exact Kd.R_mono HO1092.out (fun _ hk => ⟨hk.1.2, hk.2⟩))); (case aS => exact (below_size lb_)); (case aL => have := LMc26.out; omega); intro v1098 w34 ho hb hg hat; rw [← Ny1097.out] at ho; have n0_ := Aside0.mk (Kd.R_after (ok := (fun k_ => some k_ ≠ (.slice (some ad1085) y1082.length co15 : Value).ownBlock)) (kr_ HO_5.out) hg hat); have n1_ := Aside0.mk (Kd.R_after (ok := (fun k_ => some k_ ≠ (.slice (some ad1087) x5_1.length co16 : Value).ownBlock)) (kr_ HO_6.out) hg hat); have n2_ := Aside0.mk (hb); have n3_ := Aside0.mk ((show Kd.C Kd.string w34 A33 y1093.length y1093 from by rw [Ny1093.out, KA33.out]; exact Kd.C_drop (m := (x8_2 : Int).toNat) (c := co16) ((Kd.R_reads' (Kd.R_after (ok := (fun k_ => some k_ ≠ (.slice (some ad1085) y1082.length co15 : Value).ownBlock)) (kr_ HO_5.out) hg hat)).2.2) KL33.out ((Kd.R_reads' (Kd.R_after (ok := (fun k_ => some k_ ≠ (.slice (some ad1085) y1082.length co15 : Value).ownBlock)) (kr_ HO_5.out) hg hat)).2.1))); have n4_ := Aside0.mk (ho); clear HO_5 HO_6 HB HR1096 HO1092; have HO_5 := n0_; have HO_6 := n1_; have HB := n2_; have HR1096 := n3_; have HO1099 := n4_; clear n0_ n1_ n2_ n3_ n4_ ho hb hg hat))
                                 have n0_ := Aside0.mk (Kd.R_drew HO_5.out)
                                 have n1_ := Aside0.mk (Kd.R_drew HO_6.out)
                                 have n2_ := Aside0.mk (Kd.R_drew HO1099.out)
                                 have n3_ := Aside0.mk (Kd.C_drew HR1096.out)
                                 have n4_ := Aside0.mk (below_drew1 HB.out)
                                 clear HO_5 HO_6 HO1099 HR1096 HB
                                 have HO_5 := n0_; have HO_6 := n1_; have HO1099 := n2_; have HR1096 := n3_; have HB := n4_
                                 clear n0_ n1_ n2_ n3_ n4_
                                 have q36 : (x8_2 : Int) ≤ ((x5_1.length : Int) : Int) := of_decide_eq_true (by first | (with_reducible assumption) | assumption)
                                 obtain ⟨i036, hi036, _, hsz36, _⟩ := info_parts info9
                                 have hcut36 := cut_to (P := Tryz.prog) 131 9 .i64 Tryz.underlying131 hi036 (some ad1087) x5_1.length co16 x8_2 (of_decide_eq_true (by first | (with_reducible assumption) | assumption)) q36 (Kd.R_reads' HO_5.out).2.1
                                 have hr36 := Kd.R_take (m := (x8_2 : Int).toNat) HO_5.out (by omega)
                                 have hy36 : y1100.length = (x8_2 : Int).toNat := (by rw [Ny1100.out, List.length_take]; omega)
                                 rw [← Ny1100.out] at hr36
                                 rw [← hy36] at hr36 hcut36
                                 clear hy36 hi036 hsz36 HO_5
                                 have HO1102 := Aside0.mk hr36
                                 clear hr36
                                 replace q36 := eq_true q36
                                 have p1103 : 0 ≤ (x7_1 : Int) := of_decide_eq_true (by first | (with_reducible assumption) | assumption)
                                 have q1103 : x7_1 < (y1082.length : Int) := of_decide_eq_true (by first | (with_reducible assumption) | assumption)
                                 obtain ⟨ad1103, e1103, hx1103_0⟩ := Kd.at_string (Kd.R_reads' HO_6.out).2.2 x7_1 p1103 q1103
                                 obtain rfl : ad1085 = ad1103 := (by injection e1103)
                                 replace p1103 := eq_true p1103
                                 replace q1103 := eq_true q1103
                                 refine start_ (n := 12) (S := fun w' => w'.cell? (ad1085.add (x7_1).toNat) = some (.string (rdOf ByteArray.empty y1082 x7_1))) (ds := [7, 8, 10]) #[false, false, false, false, false, false, false, false, false, false, false, false] (by kernel_rfl) rfl rfl (hx1103_0) (fun hHeld => ?_); refine with_tabW althingref04_Join.tab11 althingref04_Join.bits11 (fun HT_ HW_ => ?_)
                                 generalize w34.drew = w35 at HO_5 HO_6 HO1099 HR1096 HB HO1102 hx1103_0 hHeld ⊢
                                 refine pure_ (i := 0) (N := some 49) (v := ?_) (a' := ?_) #[true, false, false, false, false, false, false, false, false, false, false, false] rfl rfl (any_of HT_.out (by kernel_rfl)) (fun _ _ _ h => h) (Or.inl ⟨by rfl, ?_⟩) ?_ ?_
                                 rotate_left
                                 · intro w'
                                   go_simp
                                   with_reducible rfl
                                 rotate_left
                                 · simp only [Act.put, List.setIfInBounds_toArray, List.set_cons_zero, List.set_cons_succ, i64_w, i32_w]
                                   rfl
                                 refine pure_ (i := 1) (N := some 50) (v := ?_) (a' := ?_) #[true, true, false, false, false, false, false, false, false, false, false, false] rfl rfl (any_of HT_.out (by kernel_rfl)) (fun _ _ _ h => h) (Or.inl ⟨by rfl, ?_⟩) ?_ ?_
                                 rotate_left
                                 · intro w'
                                   go_simp
                                   with_reducible rfl
                                 rotate_left
                                 · simp only [Act.put, List.setIfInBounds_toArray, List.set_cons_zero, List.set_cons_succ, i64_w, i32_w]
                                   rfl
                                 refine pure_ (i := 2) (N := some 51) (v := ?_) (a' := ?_) #[true, true, true, false, false, false, false, false, false, false, false, false] rfl rfl (any_of HT_.out (by kernel_rfl)) (fun _ _ _ h => h) (Or.inl ⟨by rfl, ?_⟩) ?_ ?_
                                 rotate_left
                                 · intro w'
                                   go_simp
                                   with_reducible rfl
                                 rotate_left
                                 · simp only [Act.put, List.setIfInBounds_toArray, List.set_cons_zero, List.set_cons_succ, i64_w, i32_w]
                                   rfl
                                 refine pure_ (i := 3) (N := some 52) (v := ?_) (a' := ?_) #[true, true, true, true, false, false, false, false, false, false, false, false] rfl rfl (any_of HT_.out (by kernel_rfl)) (fun _ _ _ h => h) (Or.inl ⟨by rfl, ?_⟩) ?_ ?_
                                 rotate_left
                                 · intro w'
                                   go_simp
                                   with_reducible rfl
                                 rotate_left
                                 · simp only [Act.put, List.setIfInBounds_toArray, List.set_cons_zero, List.set_cons_succ, i64_w, i32_w]
                                   rfl
                                 refine pure_ (i := 4) (N := some 53) (v := ?_) (a' := ?_) #[true, true, true, true, true, false, false, false, false, false, false, false] rfl rfl (any_of HT_.out (by kernel_rfl)) (fun _ _ _ h => h) (Or.inl ⟨by rfl, ?_⟩) ?_ ?_
                                 rotate_left
                                 · intro w'
                                   go_simp
                                   with_reducible rfl
                                 rotate_left
                                 · simp only [Act.put, List.setIfInBounds_toArray, List.set_cons_zero, List.set_cons_succ, i64_w, i32_w]
                                   rfl
                                 refine pure_ (i := 5) (N := some 54) (v := ?_) (a' := ?_) #[true, true, true, true, true, true, false, false, false, false, false, false] rfl rfl (any_of HT_.out (by kernel_rfl)) (fun _ _ _ h => h) (Or.inl ⟨by rfl, ?_⟩) ?_ ?_
                                 rotate_left
                                 · intro w'
                                   go_simp
                                   with_reducible rfl
                                 rotate_left
                                 · simp only [Act.put, List.setIfInBounds_toArray, List.set_cons_zero, List.set_cons_succ, i64_w, i32_w]
                                   rfl
                                 refine pure_ (i := 9) (N := some 58) (v := ?_) (a' := ?_) #[true, true, true, true, true, true, false, false, false, true, false, false] rfl rfl (any_of HT_.out (by kernel_rfl)) (fun _ _ _ h => h) (Or.inl ⟨by rfl, ?_⟩) ?_ ?_
                                 rotate_left
                                 · intro w'
                                   go_simp
                                   with_reducible rfl
                                 rotate_left
                                 · simp only [Act.put, List.setIfInBounds_toArray, List.set_cons_zero, List.set_cons_succ, i64_w, i32_w]
                                   rfl
                                 refine take_ (i := 6) (N := some 55) (v := ?_) (a' := ?_) #[true, true, true, true, true, true, true, false, false, true, false, false] rfl rfl (take_ofW HT_.out HW_.out (by kernel_rfl)) (fun _ _ _ h => h) (Or.inl ⟨by rfl, ?_⟩) hHeld ?_ ?_
                                 rotate_left
                                 · intro w' s0
                                   go_simp
                                   with_reducible rfl
                                 rotate_left
                                 · simp only [Act.put, List.setIfInBounds_toArray, List.set_cons_zero, List.set_cons_succ, i64_w, i32_w]
                                   rfl
                                 refine last_ (i := 7) (N := some 56) #[true, true, true, true, true, true, true, true, false, true, false, false] rfl rfl (one_of HT_.out (by kernel_rfl)) (by decide) (fun K hK => ?_)
                                 refine value_ (w1 := ?_) (v := ?_) (by rfl) rfl ?_ ?_
                                 rotate_left 2
                                 · go_simp
                                   constructor
                                   · rfl
                                   · rfl
                                 refine hK.out _ _ ?_
                                 clear hK K
                                 refine norm_ (a' := ?_) ?_ ?_
                                 rotate_left
                                 · show Act.put _ (some 56) _ = _
                                   simp only [Act.put, List.setIfInBounds_toArray, List.set_cons_zero, List.set_cons_succ, i64_w, i32_w]
                                   rfl
                                 refine last_ (i := 8) (N := some 57) #[true, true, true, true, true, true, true, true, true, true, false, false] rfl rfl (one_of HT_.out (by kernel_rfl)) (by decide) (fun K hK => ?_)
                                 refine Kd.R_append_step Kd.string (w0 := w) w.heap.size (by rfl) (.tmp 51) (.tmp 56) 131 9 (.string ⟨#[]⟩) 16 rfl Tryz.underlying131 info9 rfl (by decide) (by omega) (.slice (some ad1087) y1100.length co16) y1100 (rdOf ByteArray.empty y1082 x7_1) [.string (rdOf ByteArray.empty y1082 x7_1)] (fun k_ => some k_ ≠ (.slice (some ad1085) y1082.length co15 : Value).ownBlock ∧ some k_ ≠ (v1098 : Value).ownBlock) (fun _ => False) rfl rfl ?aP (fun _ hk => hk.elim) ?aF ?aO ?aB ?aS ?aL ?_
                                 (case aP => exact rfl)
                                 (case aB => exact lb_)
                                 (case aF => exact (fun k_ hk => ⟨Kd.fresh' (Kd.R_lt (kr_ HO_6.out)) k_ hk, Kd.fresh' (Kd.R_lt (kr_ HO1099.out)) k_ hk⟩))
                                 (case aO => exact (kr_ HO1102.out))
                                 (case aS => exact (below_size lb_))
                                 (case aL => have := LMc28.out; omega)
                                 intro v1105 w37 ho hb hg hat
                                 rw [← Ny1104.out] at ho
                                 have n0_ := Aside0.mk (Kd.R_after (ok := (fun k_ => some k_ ≠ (v1098 : Value).ownBlock)) (by (with_reducible repeat (first | apply Kd.R_alloc | apply Kd.R_drewN | apply Kd.R_drew)); exact Kd.R_mono HO_6.out (fun _ hk => ⟨hk.2, by first | exact hk.1 | (have h1 := hk.1; simpa [Value.ownBlock] using h1) | (have h1 := hk.1; revert h1; cases Ao16 <;> exact id)⟩)) hg hat)
                                 have n1_ := Aside0.mk (Kd.R_after (ok := (fun k_ => some k_ ≠ (.slice (some ad1085) y1082.length co15 : Value).ownBlock)) (by (with_reducible repeat (first | apply Kd.R_alloc | apply Kd.R_drewN | apply Kd.R_drew)); exact Kd.R_mono HO1099.out (fun _ hk => ⟨hk.2, by first | exact hk.1 | (have h1 := hk.1; simpa [Value.ownBlock] using h1) | (have h1 := hk.1; revert h1; cases Ao16 <;> exact id)⟩)) hg hat)
                                 have n2_ := Aside0.mk (hb)
                                 have n3_ := Aside0.mk (ho)
                                 clear HO_6 HO1099 HB HO1102
                                 have HO_6 := n0_; have HO1099 := n1_; have HB := n2_; have HO1106 := n3_
                                 clear n0_ n1_ n2_ n3_ ho hb hg hat
                                 obtain ⟨Ao39, co39, eo39⟩ := Kd.R_slice HO1099.out
                                 (first | subst eo39 | (injection eo39 with f1_ f2_ f3_; have f4_ := f1_.symm; have f5_ := f3_.symm; clear f1_ f2_ f3_; subst f4_; subst f5_))
                                 refine hK.out _ _ ?_
                                 clear hK K
                                 refine norm_ (a' := ?_) ?_ ?_
                                 rotate_left
                                 · show Act.put _ (some 57) _ = _
                                   simp only [Act.put, List.setIfInBounds_toArray, List.set_cons_zero, List.set_cons_succ, i64_w, i32_w]
                                   rfl
                                 refine last_ (i := 10) (N := some 59) #[true, true, true, true, true, true, true, true, true, true, true, false] rfl rfl (one_of HT_.out (by kernel_rfl)) (by decide) (fun K hK => ?_)
                                 refine Kd.R_append_rows_step Kd.string (w0 := w) w.heap.size (by rfl) (.tmp 57) (.tmp 58) 131 9 (.string ⟨#[]⟩) 16 rfl Tryz.underlying131 info9 rfl (by decide) (by omega) v1105 y1104 y1097 _ _ _ (fun k_ => some k_ ≠ (.slice (some ad1085) y1082.length co15 : Value).ownBlock ∧ some k_ ≠ (.slice Ao39 y1097.length co39 : Value).ownBlock) (fun _ => False) rfl rfl ?aO ?aR (fun _ _ h => h) (fun _ h => h.elim) ?aF ?aB ?aS ?aL ?_
                                 (case aR => repeat (first | exact (Kd.R_reads' HO1099.out).2.2 | (with_reducible refine Kd.C_alloc ?_ _) | (with_reducible refine Kd.C_drewN ?_ _) | (with_reducible refine Kd.C_drew ?_)))
                                 (case aB => exact lb_)
                                 (case aF => exact (fun k_ hk => ⟨Kd.fresh' (Kd.R_lt (kr_ HO_6.out)) k_ hk, Kd.fresh' (Kd.R_lt (kr_ HO1099.out)) k_ hk⟩))
                                 (case aO => exact (kr_ HO1106.out))
                                 (case aS => exact (below_size lb_))
                                 (case aL => have := LMc29.out; omega)
                                 intro v1108 w38 ho hb hg hat
                                 rw [← Ny1107.out] at ho
                                 have n0_ := Aside0.mk (Kd.R_after (ok := (fun k_ => some k_ ≠ (.slice Ao39 y1097.length co39 : Value).ownBlock)) (kr_ HO_6.out) hg hat)
                                 have n1_ := Aside0.mk (Kd.R_after (ok := (fun k_ => some k_ ≠ (.slice (some ad1085) y1082.length co15 : Value).ownBlock)) (kr_ HO1099.out) hg hat)
                                 have n2_ := Aside0.mk (hb)
                                 have n3_ := Aside0.mk (ho)
                                 clear HO_6 HO1099 HB HO1106
                                 have HO_6 := n0_; have HO1099 := n1_; have HB := n2_; have HO1109 := n3_
                                 clear n0_ n1_ n2_ n3_ ho hb hg hat
                                 refine hK.out _ _ ?_
                                 clear hK K
                                 refine norm_ (a' := ?_) ?_ ?_
                                 rotate_left
                                 · show Act.put _ (some 59) _ = _
                                   simp only [Act.put, List.setIfInBounds_toArray, List.set_cons_zero, List.set_cons_succ, i64_w, i32_w]
                                   rfl
                                 refine pure_ (i := 11) (N := some 5) (v := ?_) (a' := ?_) #[true, true, true, true, true, true, true, true, true, true, true, true] rfl rfl (any_of HT_.out (by kernel_rfl)) (fun _ _ _ h => h) (Or.inl ⟨by rfl, ?_⟩) ?_ ?_
                                 rotate_left
                                 · intro w'
                                   go_simp
                                   with_reducible rfl
                                 rotate_left
                                 · simp only [Act.put, List.setIfInBounds_toArray, List.set_cons_zero, List.set_cons_succ, i64_w, i32_w]
                                   rfl
                                 refine done_ (done_of HT_.out (by kernel_rfl)) ?_
                                 try go_wp2
                                 go_roundg k2
                                 case measure => have := HK1.out; have := HK2.out; omega
                                 case rel => exact ⟨(y1107), (wrap64 (x7_1 + 1)), (by first | rfl | (simp; done) | (simp [*]; done)), H', ⟨by have := HK1.out; have := HK2.out; omega⟩, ⟨by (with_reducible repeat (first | apply Kd.R_alloc | apply Kd.R_drewN | apply Kd.R_drew)); exact Kd.R_mono HO1109.out (fun _ hk => hk.1)⟩, ⟨by (with_reducible repeat (first | apply Kd.R_alloc | apply Kd.R_drewN | apply Kd.R_drew)); exact Kd.R_mono HO_6.out (fun _ hk => hk.2)⟩, ⟨by repeat (first | (with_reducible first | exact HB.out | apply below_alloc | apply pw_below_drewN | apply below_drew1) | exact HB.out)⟩⟩
                               · rw [if_neg c29] at H
                                 exact absurd H (by simp)
                             · rw [if_neg c28] at H
                               exact absurd H (by simp)
                           · rw [if_neg c26] at H
                             exact absurd H (by simp)
                         · rw [if_neg c25] at H
                           exact absurd H (by simp)
                     · rw [if_neg c20] at H
                       exact absurd H (by simp)
                   · rw [if_neg c19] at H
                     exact absurd H (by simp)
                 · rw [if_neg c18] at H
                   exact absurd H (by simp)
               · rw [if_neg c17] at H
                 have c17b0 : decide (x8_2 < (x5_1.length : Int)) = false := decide_eq_false c17
                 clear c17
                 obtain ⟨y1110, hy1110⟩ : ∃ y_ : List ByteArray, y_ = (([] : List ByteArray)) := ⟨_, rfl⟩
                 replace H : (if 0 ≤ x8_2 then (if x8_2 ≤ (x5_1.length : Int) then ((some (x5_1.drop (x8_2 : Int).toNat : List ByteArray)).bind fun y1113 => (if y1110.length + y1113.length < 8796093022208 then ((some (y1110 ++ y1113 : List ByteArray)).bind fun y1117 => ((some (x5_1.take (x8_2 : Int).toNat : List ByteArray)).bind fun y1120 => (if 0 ≤ x7_1 then (if x7_1 < (y1082.length : Int) then (if y1120.length < 8796093022208 then ((some (y1120 ++ [rdOf ByteArray.empty y1082 x7_1] : List ByteArray)).bind fun y1124 => (if y1124.length + y1117.length < 8796093022208 then (althingref04_Join.l0 k2 (y1124 ++ y1117) y1082 (wrap64 (x7_1 + 1))) else (none))) else (none)) else (none)) else (none)))) else (none))) else (none)) else (none)) = some r := by first | (rw [hy1110]; with_reducible exact H) | (have H2_ := (Option.bind_some _ _).symm.trans H; rw [hy1110]; with_reducible exact H2_) | (have H2_ := (Option.bind_some _ _).symm.trans H; with_reducible exact H2_) | with_reducible exact H | (rw [hy1110]; exact H) | exact H
                 have Ny1110 := Aside0.mk hy1110
                 clear hy1110
                 by_cases c40 : 0 ≤ x8_2
                 · rw [if_pos c40] at H
                   have c40b0 := eq_true c40
                   have c40b1 : decide (0 ≤ x8_2) = true := decide_eq_true c40
                   clear c40
                   by_cases c41 : x8_2 ≤ (x5_1.length : Int)
                   · rw [if_pos c41] at H
                     have c41b0 := eq_true c41
                     have c41b1 : decide (x8_2 ≤ (x5_1.length : Int)) = true := decide_eq_true c41
                     clear c41
                     obtain ⟨y1113, hy1113⟩ : ∃ y_ : List ByteArray, y_ = (x5_1.drop (x8_2 : Int).toNat) := ⟨_, rfl⟩
                     replace H : (if y1110.length + y1113.length < 8796093022208 then ((some (y1110 ++ y1113 : List ByteArray)).bind fun y1117 => ((some (x5_1.take (x8_2 : Int).toNat : List ByteArray)).bind fun y1120 => (if 0 ≤ x7_1 then (if x7_1 < (y1082.length : Int) then (if y1120.length < 8796093022208 then ((some (y1120 ++ [rdOf ByteArray.empty y1082 x7_1] : List ByteArray)).bind fun y1124 => (if y1124.length + y1117.length < 8796093022208 then (althingref04_Join.l0 k2 (y1124 ++ y1117) y1082 (wrap64 (x7_1 + 1))) else (none))) else (none)) else (none)) else (none)))) else (none)) = some r := by first | (rw [hy1113]; with_reducible exact H) | (have H2_ := (Option.bind_some _ _).symm.trans H; rw [hy1113]; with_reducible exact H2_) | (have H2_ := (Option.bind_some _ _).symm.trans H; with_reducible exact H2_) | with_reducible exact H | (rw [hy1113]; exact H) | exact H
                     have Ny1113 := Aside0.mk hy1113
                     clear hy1113
                     by_cases c42 : y1110.length + y1113.length < 8796093022208
                     · rw [if_pos c42] at H
                       have LMc42 := Aside0.mk c42
                       clear c42
                       obtain ⟨y1117, hy1117⟩ : ∃ y_ : List ByteArray, y_ = (y1110 ++ y1113) := ⟨_, rfl⟩
                       replace H : ((some (x5_1.take (x8_2 : Int).toNat : List ByteArray)).bind fun y1120 => (if 0 ≤ x7_1 then (if x7_1 < (y1082.length : Int) then (if y1120.length < 8796093022208 then ((some (y1120 ++ [rdOf ByteArray.empty y1082 x7_1] : List ByteArray)).bind fun y1124 => (if y1124.length + y1117.length < 8796093022208 then (althingref04_Join.l0 k2 (y1124 ++ y1117) y1082 (wrap64 (x7_1 + 1))) else (none))) else (none)) else (none)) else (none))) = some r := by first | (rw [hy1117]; with_reducible exact H) | (have H2_ := (Option.bind_some _ _).symm.trans H; rw [hy1117]; with_reducible exact H2_) | (have H2_ := (Option.bind_some _ _).symm.trans H; with_reducible exact H2_) | with_reducible exact H | (rw [hy1117]; exact H) | exact H
                       have Ny1117 := Aside0.mk hy1117
                       clear hy1117
                       have c43b0 := eq_true (of_decide_eq_true (by first | (with_reducible assumption) | assumption) : x8_2 ≤ (x5_1.length : Int))
                       obtain ⟨y1120, hy1120⟩ : ∃ y_ : List ByteArray, y_ = (x5_1.take (x8_2 : Int).toNat) := ⟨_, rfl⟩
                       replace H : (if 0 ≤ x7_1 then (if x7_1 < (y1082.length : Int) then (if y1120.length < 8796093022208 then ((some (y1120 ++ [rdOf ByteArray.empty y1082 x7_1] : List ByteArray)).bind fun y1124 => (if y1124.length + y1117.length < 8796093022208 then (althingref04_Join.l0 k2 (y1124 ++ y1117) y1082 (wrap64 (x7_1 + 1))) else (none))) else (none)) else (none)) else (none)) = some r := by first | (rw [hy1120]; with_reducible exact H) | (have H2_ := (Option.bind_some _ _).symm.trans H; rw [hy1120]; with_reducible exact H2_) | (have H2_ := (Option.bind_some _ _).symm.trans H; with_reducible exact H2_) | with_reducible exact H | (rw [hy1120]; exact H) | exact H
                       have Ny1120 := Aside0.mk hy1120
                       clear hy1120
                       by_cases c44 : 0 ≤ x7_1
                       · rw [if_pos c44] at H
                         have c44b0 : decide (0 ≤ x7_1) = true := decide_eq_true c44
                         clear c44
                         by_cases c45 : x7_1 < (y1082.length : Int)
                         · rw [if_pos c45] at H
                           have c45b0 : decide (x7_1 < (y1082.length : Int)) = true := decide_eq_true c45
                           clear c45
                           by_cases c46 : y1120.length < 8796093022208
                           · rw [if_pos c46] at H
                             have LMc46 := Aside0.mk c46
                             clear c46
                             obtain ⟨y1124, hy1124⟩ : ∃ y_ : List ByteArray, y_ = (y1120 ++ [rdOf ByteArray.empty y1082 x7_1]) := ⟨_, rfl⟩
                             replace H : (if y1124.length + y1117.length < 8796093022208 then (althingref04_Join.l0 k2 (y1124 ++ y1117) y1082 (wrap64 (x7_1 + 1))) else (none)) = some r := by first | (rw [hy1124]; with_reducible exact H) | (have H2_ := (Option.bind_some _ _).symm.trans H; rw [hy1124]; with_reducible exact H2_) | (have H2_ := (Option.bind_some _ _).symm.trans H; with_reducible exact H2_) | with_reducible exact H | (rw [hy1124]; exact H) | exact H
                             have Ny1124 := Aside0.mk hy1124
                             clear hy1124
                             by_cases c47 : y1124.length + y1117.length < 8796093022208
                             · rw [if_pos c47] at H
                               have LMc47 := Aside0.mk c47
                               clear c47
                               obtain ⟨y1127, hy1127⟩ : ∃ y_ : List ByteArray, y_ = (y1124 ++ y1117) := ⟨_, rfl⟩
                               replace H : (althingref04_Join.l0 k2 y1127 y1082 (wrap64 (x7_1 + 1))) = some r := by first | (rw [hy1127]; with_reducible exact H) | (have H2_ := (Option.bind_some _ _).symm.trans H; rw [hy1127]; with_reducible exact H2_) | (have H2_ := (Option.bind_some _ _).symm.trans H; with_reducible exact H2_) | with_reducible exact H | (rw [hy1127]; exact H) | exact H
                               have Ny1127 := Aside0.mk hy1127
                               clear hy1127
                               have H' := Aside0.mk H
                               clear H
                               try go_wp2
                               have n0_ := Aside0.mk (Kd.R_drew HO_5.out)
                               have n1_ := Aside0.mk (Kd.R_drew HO_6.out)
                               have n2_ := Aside0.mk (below_drew1 HB.out)
                               clear HO_5 HO_6 HB
                               have HO_5 := n0_; have HO_6 := n1_; have HB := n2_
                               clear n0_ n1_ n2_
                               refine start_ (n := 15) (S := fun w' => True) (ds := []) #[false, false, false, false, false, false, false, false, false, false, false, false, false, false, false] (by kernel_rfl) rfl rfl trivial (fun hHeld => ?_); refine with_tabW althingref04_Join.tab8 althingref04_Join.bits8 (fun HT_ HW_ => ?_)
                               generalize wr.drew = w48 at HO_5 HO_6 HB hHeld ⊢
                               refine pure_ (i := 0) (N := some 27) (v := ?_) (a' := ?_) #[true, false, false, false, false, false, false, false, false, false, false, false, false, false, false] rfl rfl (any_of HT_.out (by kernel_rfl)) (fun _ _ _ h => h) (Or.inl ⟨by rfl, ?_⟩) ?_ ?_
                               rotate_left
                               · intro w'
                                 go_simp
                                 with_reducible rfl
                               rotate_left
                               · simp only [Act.put, List.setIfInBounds_toArray, List.set_cons_zero, List.set_cons_succ, i64_w, i32_w]
                                 rfl
                               refine pure_ (i := 1) (N := some 28) (v := ?_) (a' := ?_) #[true, true, false, false, false, false, false, false, false, false, false, false, false, false, false] rfl rfl (any_of HT_.out (by kernel_rfl)) (fun _ _ _ h => h) (Or.inl ⟨by rfl, ?_⟩) ?_ ?_
                               rotate_left
                               · intro w'
                                 go_simp
                                 with_reducible rfl
                               rotate_left
                               · simp only [Act.put, List.setIfInBounds_toArray, List.set_cons_zero, List.set_cons_succ, i64_w, i32_w]
                                 rfl
                               refine pure_ (i := 2) (N := some 29) (v := ?_) (a' := ?_) #[true, true, true, false, false, false, false, false, false, false, false, false, false, false, false] rfl rfl (any_of HT_.out (by kernel_rfl)) (fun _ _ _ h => h) (Or.inl ⟨by rfl, ?_⟩) ?_ ?_
                               rotate_left
                               · intro w'
                                 go_simp
                                 with_reducible rfl
                               rotate_left
                               · simp only [Act.put, List.setIfInBounds_toArray, List.set_cons_zero, List.set_cons_succ, i64_w, i32_w]
                                 rfl
                               refine pure_ (i := 3) (N := some 30) (v := ?_) (a' := ?_) #[true, true, true, true, false, false, false, false, false, false, false, false, false, false, false] rfl rfl (any_of HT_.out (by kernel_rfl)) (fun _ _ _ h => h) (Or.inl ⟨by rfl, ?_⟩) ?_ ?_
                               rotate_left
                               · intro w'
                                 go_simp
                                 with_reducible rfl
                               rotate_left
                               · simp only [Act.put, List.setIfInBounds_toArray, List.set_cons_zero, List.set_cons_succ, i64_w, i32_w]
                                 rfl
                               refine pure_ (i := 4) (N := some 31) (v := ?_) (a' := ?_) #[true, true, true, true, true, false, false, false, false, false, false, false, false, false, false] rfl rfl (any_of HT_.out (by kernel_rfl)) (fun _ _ _ h => h) (Or.inl ⟨by rfl, ?_⟩) ?_ ?_
                               rotate_left
                               · intro w'
                                 go_simp
                                 with_reducible rfl
                               rotate_left
                               · simp only [Act.put, List.setIfInBounds_toArray, List.set_cons_zero, List.set_cons_succ, i64_w, i32_w]
                                 rfl
                               refine pure_ (i := 5) (N := some 32) (v := undef) (a' := ?_) #[true, true, true, true, true, true, false, false, false, false, false, false, false, false, false] rfl rfl (any_of HT_.out (by kernel_rfl)) (fun _ _ _ h => h) (Or.inr ⟨by rfl, rfl⟩) ?_ ?_
                               rotate_left
                               · simp only [Act.put, List.setIfInBounds_toArray, List.set_cons_zero, List.set_cons_succ, i64_w, i32_w]
                                 rfl
                               refine pure_ (i := 6) (N := some 33) (v := undef) (a' := ?_) #[true, true, true, true, true, true, true, false, false, false, false, false, false, false, false] rfl rfl (any_of HT_.out (by kernel_rfl)) (fun _ _ _ h => h) (Or.inr ⟨by rfl, rfl⟩) ?_ ?_
                               rotate_left
                               · simp only [Act.put, List.setIfInBounds_toArray, List.set_cons_zero, List.set_cons_succ, i64_w, i32_w]
                                 rfl
                               refine pure_ (i := 7) (N := some 34) (v := undef) (a' := ?_) #[true, true, true, true, true, true, true, true, false, false, false, false, false, false, false] rfl rfl (any_of HT_.out (by kernel_rfl)) (fun _ _ _ h => h) (Or.inr ⟨by rfl, rfl⟩) ?_ ?_
                               rotate_left
                               · simp only [Act.put, List.setIfInBounds_toArray, List.set_cons_zero, List.set_cons_succ, i64_w, i32_w]
                                 rfl
                               refine pure_ (i := 8) (N := some 35) (v := undef) (a' := ?_) #[true, true, true, true, true, true, true, true, true, false, false, false, false, false, false] rfl rfl (any_of HT_.out (by kernel_rfl)) (fun _ _ _ h => h) (Or.inr ⟨by rfl, rfl⟩) ?_ ?_
                               rotate_left
                               · simp only [Act.put, List.setIfInBounds_toArray, List.set_cons_zero, List.set_cons_succ, i64_w, i32_w]
                                 rfl
                               refine pure_ (i := 9) (N := some 36) (v := undef) (a' := ?_) #[true, true, true, true, true, true, true, true, true, true, false, false, false, false, false] rfl rfl (any_of HT_.out (by kernel_rfl)) (fun _ _ _ h => h) (Or.inr ⟨by rfl, rfl⟩) ?_ ?_
                               rotate_left
                               · simp only [Act.put, List.setIfInBounds_toArray, List.set_cons_zero, List.set_cons_succ, i64_w, i32_w]
                                 rfl
                               refine pure_ (i := 10) (N := some 37) (v := undef) (a' := ?_) #[true, true, true, true, true, true, true, true, true, true, true, false, false, false, false] rfl rfl (any_of HT_.out (by kernel_rfl)) (fun _ _ _ h => h) (Or.inr ⟨by rfl, rfl⟩) ?_ ?_
                               rotate_left
                               · simp only [Act.put, List.setIfInBounds_toArray, List.set_cons_zero, List.set_cons_succ, i64_w, i32_w]
                                 rfl
                               refine pure_ (i := 11) (N := some 38) (v := undef) (a' := ?_) #[true, true, true, true, true, true, true, true, true, true, true, true, false, false, false] rfl rfl (any_of HT_.out (by kernel_rfl)) (fun _ _ _ h => h) (Or.inr ⟨by rfl, rfl⟩) ?_ ?_
                               rotate_left
                               · simp only [Act.put, List.setIfInBounds_toArray, List.set_cons_zero, List.set_cons_succ, i64_w, i32_w]
                                 rfl
                               refine pure_ (i := 12) (N := some 39) (v := undef) (a' := ?_) #[true, true, true, true, true, true, true, true, true, true, true, true, true, false, false] rfl rfl (any_of HT_.out (by kernel_rfl)) (fun _ _ _ h => h) (Or.inr ⟨by rfl, rfl⟩) ?_ ?_
                               rotate_left
                               · simp only [Act.put, List.setIfInBounds_toArray, List.set_cons_zero, List.set_cons_succ, i64_w, i32_w]
                                 rfl
                               refine pure_ (i := 13) (N := some 40) (v := undef) (a' := ?_) #[true, true, true, true, true, true, true, true, true, true, true, true, true, true, false] rfl rfl (any_of HT_.out (by kernel_rfl)) (fun _ _ _ h => h) (Or.inr ⟨by rfl, rfl⟩) ?_ ?_
                               rotate_left
                               · simp only [Act.put, List.setIfInBounds_toArray, List.set_cons_zero, List.set_cons_succ, i64_w, i32_w]
                                 rfl
                               refine pure_ (i := 14) (N := some 41) (v := ?_) (a' := ?_) #[true, true, true, true, true, true, true, true, true, true, true, true, true, true, true] rfl rfl (any_of HT_.out (by kernel_rfl)) (fun _ _ _ h => h) (Or.inl ⟨by rfl, ?_⟩) ?_ ?_
                               rotate_left
                               · intro w'
                                 go_simp
                                 with_reducible rfl
                               rotate_left
                               · simp only [Act.put, List.setIfInBounds_toArray, List.set_cons_zero, List.set_cons_succ, i64_w, i32_w]
                                 rfl
                               refine done_ (done_of HT_.out (by kernel_rfl)) ?_
                               try go_wp2_with (first | ((with_reducible refine gate_dst (N := 44) rfl ?_); refine Kd.R_lit Kd.string _ 9 ?hg (N := 44) ?hd (xs := ([] : List ByteArray)) (inner := []) (ok := fun _ => True) (okp := fun _ => True) ?hr ?hp (fun _ hk => hk) trivial (Below.refl _ _) (Nat.le_refl _) (by simp) ?_; (case hd => rfl); (case hg => rfl); (case hr => first | (go_simp; done) | (go_simp; rfl)); (case hp => exact (Reps.none _ _)); intro v1111 w49 ho50 hb hg_ hnew_; clear hg_ hnew_; (first | rw [← Ny1110.out] at ho50 | (simp only [Int.reduceToNat] at ho50; rw [← Ny1110.out] at ho50)); have n0_ := Aside0.mk (Kd.R_elder' (kr_ HO_5.out) (Kd.R_base ho50) hb); have n1_ := Aside0.mk (Kd.R_elder' (kr_ HO_6.out) (Kd.R_base ho50) hb); have n2_ := Aside0.mk (Kd.R_lower (Kd.R_new' (Kd.R_new' ho50 (Kd.R_lt (kr_ HO_5.out))) (Kd.R_lt (kr_ HO_6.out))) (below_size lb_)); have n3_ := Aside0.mk (below_step lb_ hb); clear HO_5 HO_6 HB; have HO_5 := n0_; have HO_6 := n1_; have HO1112 := n2_; have HB := n3_; clear n0_ n1_ n2_ n3_ hb ho50; have q51 : (x8_2 : Int) ≤ ((x5_1.length : Int) : Int) := of_decide_eq_true (by first | (with_reducible assumption) | assumption); obtain ⟨i051, hi051, _, hsz51, _⟩ := info_parts info9; have hroom51 : x5_1.length ≤ co16 := (Kd.R_reads' HO_5.out).2.1; have hC51 : Kd.C Kd.string _ Ao16 x5_1.length x5_1 := (Kd.R_reads' HO_5.out).2.2; have q051 : (0 : Int) ≤ (x8_2 : Int) := of_decide_eq_true (by first | (with_reducible assumption) | assumption); have hcut51 := cut_from (P := Tryz.prog) 131 9 .i64 Tryz.underlying131 hi051 1 hsz51 Ao16 x5_1.length co16 x8_2 q051 q51; have hr51 := Kd.C_drop (m := (x8_2 : Int).toNat) (c := co16) hC51 (by omega) hroom51; obtain ⟨A51, hA51⟩ : ∃ A1, A1 = (if co16 = (x8_2 : Int).toNat then Ao16 else (Ao16 : Option Addr).map (·.add ((x8_2 : Int).toNat * 1))) := ⟨_, rfl⟩; obtain ⟨c51, hc51⟩ : ∃ c1, c1 = co16 - (x8_2 : Int).toNat := ⟨_, rfl⟩; have hy51 : y1113.length = x5_1.length - (x8_2 : Int).toNat := (by rw [Ny1113.out, List.length_drop] <;> omega); rw [show (x5_1).drop (x8_2 : Int).toNat = y1113 from Ny1113.out.symm] at hr51; replace hr51 : Kd.C Kd.string _ A51 y1113.length y1113 := (by rw [hA51]; exact hr51); rw [← hy51, ← hA51, ← hc51] at hcut51; have HR1116 := Aside0.mk hr51; have HC1116 := Aside0.mk (show y1113.length ≤ c51 from by rw [hy51, hc51]; exact Nat.sub_le_sub_right hroom51 _); clear hr51 hC51 hroom51 hi051 hsz51 hc51; have KY51 := Aside0.mk hy51; have KA51 := Aside0.mk hA51; clear hy51 hA51; have KL51 := Aside0.mk (show (x8_2 : Int).toNat ≤ x5_1.length from by omega); replace q51 := eq_true q51) | ((with_reducible refine gate_builtin (b := .append) (xs := #[.tmp 44, .tmp 47]) rfl ?_); at_builtin; refine Kd.R_append_rows Kd.string (w0 := w) w.heap.size rfl (.tmp 44) (.tmp 47) 131 9 (.string ⟨#[]⟩) 16 rfl Tryz.underlying131 info9 rfl (by decide) (by omega) v1111 y1110 y1113 _ _ _ (fun k_ => some k_ ≠ (.slice Ao16 x5_1.length co16 : Value).ownBlock ∧ some k_ ≠ (.slice (some ad1085) y1082.length co15 : Value).ownBlock) (fun _ => False) rfl rfl ?aO ?aR (fun _ _ h => h) (fun _ h => h.elim) ?aF ?aB ?aS ?aL ?_; (case aR => repeat (first | exact (by repeat (first | (with_reducible exact HR1116.out) | (with_reducible refine Kd.C_alloc ?_ _) | (with_reducible refine Kd.C_drewN ?_ _) | (with_reducible refine Kd.C_drew ?_) | exact HR1116.out)) | (with_reducible refine Kd.C_alloc ?_ _) | (with_reducible refine Kd.C_drewN ?_ _) | (with_reducible refine Kd.C_drew ?_))); (case aB => exact lb_); (case aF => exact (fun k_ hk => ⟨Kd.fresh' (Kd.R_lt (kr_ HO_5.out)) k_ hk, Kd.fresh' (Kd.R_lt (kr_ HO_6.out)) k_ hk⟩)); (case aO => exact (by (with_reducible repeat (first | apply Kd.R_alloc | apply Kd.R_drewN | apply Kd.R_drew)); exact Kd.R_mono HO1112.out (fun _ hk => ⟨hk.1.2, hk.2⟩))); (case aS => exact (below_size lb_)); (case aL => have := LMc42.out; omega); intro v1118 w52 ho hb hg hat; rw [← Ny1117.out] at ho; have n0_ := Aside0.mk (Kd.R_after (ok := (fun k_ => some k_ ≠ (.slice (some ad1085) y1082.length co15 : Value).ownBlock)) (kr_ HO_5.out) hg hat); have n1_ := Aside0.mk (Kd.R_after (ok := (fun k_ => some k_ ≠ (.slice Ao16 x5_1.length co16 : Value).ownBlock)) (kr_ HO_6.out) hg hat); have n2_ := Aside0.mk (hb); have n3_ := Aside0.mk ((show Kd.C Kd.string w52 A51 y1113.length y1113 from by rw [Ny1113.out, KA51.out]; exact Kd.C_drop (m := (x8_2 : Int).toNat) (c := co16) ((Kd.R_reads' (Kd.R_after (ok := (fun k_ => some k_ ≠ (.slice (some ad1085) y1082.length co15 : Value).ownBlock)) (kr_ HO_5.out) hg hat)).2.2) KL51.out ((Kd.R_reads' (Kd.R_after (ok := (fun k_ => some k_ ≠ (.slice (some ad1085) y1082.length co15 : Value).ownBlock)) (kr_ HO_5.out) hg hat)).2.1))); have n4_ := Aside0.mk (ho); clear HO_5 HO_6 HB HR1116 HO1112; have HO_5 := n0_; have HO_6 := n1_; have HB := n2_; have HR1116 := n3_; have HO1119 := n4_; clear n0_ n1_ n2_ n3_ n4_ ho hb hg hat))
                               have n0_ := Aside0.mk (Kd.R_drew HO_5.out)
                               have n1_ := Aside0.mk (Kd.R_drew HO_6.out)
                               have n2_ := Aside0.mk (Kd.R_drew HO1119.out)
                               have n3_ := Aside0.mk (Kd.C_drew HR1116.out)
                               have n4_ := Aside0.mk (below_drew1 HB.out)
                               clear HO_5 HO_6 HO1119 HR1116 HB
                               have HO_5 := n0_; have HO_6 := n1_; have HO1119 := n2_; have HR1116 := n3_; have HB := n4_
                               clear n0_ n1_ n2_ n3_ n4_
                               have q54 : (x8_2 : Int) ≤ ((x5_1.length : Int) : Int) := of_decide_eq_true (by first | (with_reducible assumption) | assumption)
                               obtain ⟨i054, hi054, _, hsz54, _⟩ := info_parts info9
                               have hcut54 := cut_to (P := Tryz.prog) 131 9 .i64 Tryz.underlying131 hi054 Ao16 x5_1.length co16 x8_2 (of_decide_eq_true (by first | (with_reducible assumption) | assumption)) q54 (Kd.R_reads' HO_5.out).2.1
                               have hr54 := Kd.R_take (m := (x8_2 : Int).toNat) HO_5.out (by omega)
                               have hy54 : y1120.length = (x8_2 : Int).toNat := (by rw [Ny1120.out, List.length_take]; omega)
                               rw [← Ny1120.out] at hr54
                               rw [← hy54] at hr54 hcut54
                               clear hy54 hi054 hsz54 HO_5
                               have HO1122 := Aside0.mk hr54
                               clear hr54
                               replace q54 := eq_true q54
                               have p1123 : 0 ≤ (x7_1 : Int) := of_decide_eq_true (by first | (with_reducible assumption) | assumption)
                               have q1123 : x7_1 < (y1082.length : Int) := of_decide_eq_true (by first | (with_reducible assumption) | assumption)
                               obtain ⟨ad1123, e1123, hx1123_0⟩ := Kd.at_string (Kd.R_reads' HO_6.out).2.2 x7_1 p1123 q1123
                               obtain rfl : ad1085 = ad1123 := (by injection e1123)
                               replace p1123 := eq_true p1123
                               replace q1123 := eq_true q1123
                               refine start_ (n := 12) (S := fun w' => w'.cell? (ad1085.add (x7_1).toNat) = some (.string (rdOf ByteArray.empty y1082 x7_1))) (ds := [7, 8, 10]) #[false, false, false, false, false, false, false, false, false, false, false, false] (by kernel_rfl) rfl rfl (hx1123_0) (fun hHeld => ?_); refine with_tabW althingref04_Join.tab11 althingref04_Join.bits11 (fun HT_ HW_ => ?_)
                               generalize w52.drew = w53 at HO_5 HO_6 HO1119 HR1116 HB HO1122 hx1123_0 hHeld ⊢
                               refine pure_ (i := 0) (N := some 49) (v := ?_) (a' := ?_) #[true, false, false, false, false, false, false, false, false, false, false, false] rfl rfl (any_of HT_.out (by kernel_rfl)) (fun _ _ _ h => h) (Or.inl ⟨by rfl, ?_⟩) ?_ ?_
                               rotate_left
                               · intro w'
                                 go_simp
                                 with_reducible rfl
                               rotate_left
                               · simp only [Act.put, List.setIfInBounds_toArray, List.set_cons_zero, List.set_cons_succ, i64_w, i32_w]
                                 rfl
                               refine pure_ (i := 1) (N := some 50) (v := ?_) (a' := ?_) #[true, true, false, false, false, false, false, false, false, false, false, false] rfl rfl (any_of HT_.out (by kernel_rfl)) (fun _ _ _ h => h) (Or.inl ⟨by rfl, ?_⟩) ?_ ?_
                               rotate_left
                               · intro w'
                                 go_simp
                                 with_reducible rfl
                               rotate_left
                               · simp only [Act.put, List.setIfInBounds_toArray, List.set_cons_zero, List.set_cons_succ, i64_w, i32_w]
                                 rfl
                               refine pure_ (i := 2) (N := some 51) (v := ?_) (a' := ?_) #[true, true, true, false, false, false, false, false, false, false, false, false] rfl rfl (any_of HT_.out (by kernel_rfl)) (fun _ _ _ h => h) (Or.inl ⟨by rfl, ?_⟩) ?_ ?_
                               rotate_left
                               · intro w'
                                 go_simp
                                 with_reducible rfl
                               rotate_left
                               · simp only [Act.put, List.setIfInBounds_toArray, List.set_cons_zero, List.set_cons_succ, i64_w, i32_w]
                                 rfl
                               refine pure_ (i := 3) (N := some 52) (v := ?_) (a' := ?_) #[true, true, true, true, false, false, false, false, false, false, false, false] rfl rfl (any_of HT_.out (by kernel_rfl)) (fun _ _ _ h => h) (Or.inl ⟨by rfl, ?_⟩) ?_ ?_
                               rotate_left
                               · intro w'
                                 go_simp
                                 with_reducible rfl
                               rotate_left
                               · simp only [Act.put, List.setIfInBounds_toArray, List.set_cons_zero, List.set_cons_succ, i64_w, i32_w]
                                 rfl
                               refine pure_ (i := 4) (N := some 53) (v := ?_) (a' := ?_) #[true, true, true, true, true, false, false, false, false, false, false, false] rfl rfl (any_of HT_.out (by kernel_rfl)) (fun _ _ _ h => h) (Or.inl ⟨by rfl, ?_⟩) ?_ ?_
                               rotate_left
                               · intro w'
                                 go_simp
                                 with_reducible rfl
                               rotate_left
                               · simp only [Act.put, List.setIfInBounds_toArray, List.set_cons_zero, List.set_cons_succ, i64_w, i32_w]
                                 rfl
                               refine pure_ (i := 5) (N := some 54) (v := ?_) (a' := ?_) #[true, true, true, true, true, true, false, false, false, false, false, false] rfl rfl (any_of HT_.out (by kernel_rfl)) (fun _ _ _ h => h) (Or.inl ⟨by rfl, ?_⟩) ?_ ?_
                               rotate_left
                               · intro w'
                                 go_simp
                                 with_reducible rfl
                               rotate_left
                               · simp only [Act.put, List.setIfInBounds_toArray, List.set_cons_zero, List.set_cons_succ, i64_w, i32_w]
                                 rfl
                               refine pure_ (i := 9) (N := some 58) (v := ?_) (a' := ?_) #[true, true, true, true, true, true, false, false, false, true, false, false] rfl rfl (any_of HT_.out (by kernel_rfl)) (fun _ _ _ h => h) (Or.inl ⟨by rfl, ?_⟩) ?_ ?_
                               rotate_left
                               · intro w'
                                 go_simp
                                 with_reducible rfl
                               rotate_left
                               · simp only [Act.put, List.setIfInBounds_toArray, List.set_cons_zero, List.set_cons_succ, i64_w, i32_w]
                                 rfl
                               refine take_ (i := 6) (N := some 55) (v := ?_) (a' := ?_) #[true, true, true, true, true, true, true, false, false, true, false, false] rfl rfl (take_ofW HT_.out HW_.out (by kernel_rfl)) (fun _ _ _ h => h) (Or.inl ⟨by rfl, ?_⟩) hHeld ?_ ?_
                               rotate_left
                               · intro w' s0
                                 go_simp
                                 with_reducible rfl
                               rotate_left
                               · simp only [Act.put, List.setIfInBounds_toArray, List.set_cons_zero, List.set_cons_succ, i64_w, i32_w]
                                 rfl
                               refine last_ (i := 7) (N := some 56) #[true, true, true, true, true, true, true, true, false, true, false, false] rfl rfl (one_of HT_.out (by kernel_rfl)) (by decide) (fun K hK => ?_)
                               refine value_ (w1 := ?_) (v := ?_) (by rfl) rfl ?_ ?_
                               rotate_left 2
                               · go_simp
                                 constructor
                                 · rfl
                                 · rfl
                               refine hK.out _ _ ?_
                               clear hK K
                               refine norm_ (a' := ?_) ?_ ?_
                               rotate_left
                               · show Act.put _ (some 56) _ = _
                                 simp only [Act.put, List.setIfInBounds_toArray, List.set_cons_zero, List.set_cons_succ, i64_w, i32_w]
                                 rfl
                               refine last_ (i := 8) (N := some 57) #[true, true, true, true, true, true, true, true, true, true, false, false] rfl rfl (one_of HT_.out (by kernel_rfl)) (by decide) (fun K hK => ?_)
                               refine Kd.R_append_step Kd.string (w0 := w) w.heap.size (by rfl) (.tmp 51) (.tmp 56) 131 9 (.string ⟨#[]⟩) 16 rfl Tryz.underlying131 info9 rfl (by decide) (by omega) (.slice Ao16 y1120.length co16) y1120 (rdOf ByteArray.empty y1082 x7_1) [.string (rdOf ByteArray.empty y1082 x7_1)] (fun k_ => some k_ ≠ (.slice (some ad1085) y1082.length co15 : Value).ownBlock ∧ some k_ ≠ (v1118 : Value).ownBlock) (fun _ => False) rfl rfl ?aP (fun _ hk => hk.elim) ?aF ?aO ?aB ?aS ?aL ?_
                               (case aP => exact rfl)
                               (case aB => exact lb_)
                               (case aF => exact (fun k_ hk => ⟨Kd.fresh' (Kd.R_lt (kr_ HO_6.out)) k_ hk, Kd.fresh' (Kd.R_lt (kr_ HO1119.out)) k_ hk⟩))
                               (case aO => exact (kr_ HO1122.out))
                               (case aS => exact (below_size lb_))
                               (case aL => have := LMc46.out; omega)
                               intro v1125 w55 ho hb hg hat
                               rw [← Ny1124.out] at ho
                               have n0_ := Aside0.mk (Kd.R_after (ok := (fun k_ => some k_ ≠ (v1118 : Value).ownBlock)) (by (with_reducible repeat (first | apply Kd.R_alloc | apply Kd.R_drewN | apply Kd.R_drew)); exact Kd.R_mono HO_6.out (fun _ hk => ⟨hk.2, by first | exact hk.1 | (have h1 := hk.1; simpa [Value.ownBlock] using h1) | (have h1 := hk.1; revert h1; cases Ao16 <;> exact id)⟩)) hg hat)
                               have n1_ := Aside0.mk (Kd.R_after (ok := (fun k_ => some k_ ≠ (.slice (some ad1085) y1082.length co15 : Value).ownBlock)) (by (with_reducible repeat (first | apply Kd.R_alloc | apply Kd.R_drewN | apply Kd.R_drew)); exact Kd.R_mono HO1119.out (fun _ hk => ⟨hk.2, by first | exact hk.1 | (have h1 := hk.1; simpa [Value.ownBlock] using h1) | (have h1 := hk.1; revert h1; cases Ao16 <;> exact id)⟩)) hg hat)
                               have n2_ := Aside0.mk (hb)
                               have n3_ := Aside0.mk (ho)
                               clear HO_6 HO1119 HB HO1122
                               have HO_6 := n0_; have HO1119 := n1_; have HB := n2_; have HO1126 := n3_
                               clear n0_ n1_ n2_ n3_ ho hb hg hat
                               obtain ⟨Ao57, co57, eo57⟩ := Kd.R_slice HO1119.out
                               (first | subst eo57 | (injection eo57 with f1_ f2_ f3_; have f4_ := f1_.symm; have f5_ := f3_.symm; clear f1_ f2_ f3_; subst f4_; subst f5_))
                               refine hK.out _ _ ?_
                               clear hK K
                               refine norm_ (a' := ?_) ?_ ?_
                               rotate_left
                               · show Act.put _ (some 57) _ = _
                                 simp only [Act.put, List.setIfInBounds_toArray, List.set_cons_zero, List.set_cons_succ, i64_w, i32_w]
                                 rfl
                               refine last_ (i := 10) (N := some 59) #[true, true, true, true, true, true, true, true, true, true, true, false] rfl rfl (one_of HT_.out (by kernel_rfl)) (by decide) (fun K hK => ?_)
                               refine Kd.R_append_rows_step Kd.string (w0 := w) w.heap.size (by rfl) (.tmp 57) (.tmp 58) 131 9 (.string ⟨#[]⟩) 16 rfl Tryz.underlying131 info9 rfl (by decide) (by omega) v1125 y1124 y1117 _ _ _ (fun k_ => some k_ ≠ (.slice (some ad1085) y1082.length co15 : Value).ownBlock ∧ some k_ ≠ (.slice Ao57 y1117.length co57 : Value).ownBlock) (fun _ => False) rfl rfl ?aO ?aR (fun _ _ h => h) (fun _ h => h.elim) ?aF ?aB ?aS ?aL ?_
                               (case aR => repeat (first | exact (Kd.R_reads' HO1119.out).2.2 | (with_reducible refine Kd.C_alloc ?_ _) | (with_reducible refine Kd.C_drewN ?_ _) | (with_reducible refine Kd.C_drew ?_)))
                               (case aB => exact lb_)
                               (case aF => exact (fun k_ hk => ⟨Kd.fresh' (Kd.R_lt (kr_ HO_6.out)) k_ hk, Kd.fresh' (Kd.R_lt (kr_ HO1119.out)) k_ hk⟩))
                               (case aO => exact (kr_ HO1126.out))
                               (case aS => exact (below_size lb_))
                               (case aL => have := LMc47.out; omega)
                               intro v1128 w56 ho hb hg hat
                               rw [← Ny1127.out] at ho
                               have n0_ := Aside0.mk (Kd.R_after (ok := (fun k_ => some k_ ≠ (.slice Ao57 y1117.length co57 : Value).ownBlock)) (kr_ HO_6.out) hg hat)
                               have n1_ := Aside0.mk (Kd.R_after (ok := (fun k_ => some k_ ≠ (.slice (some ad1085) y1082.length co15 : Value).ownBlock)) (kr_ HO1119.out) hg hat)
                               have n2_ := Aside0.mk (hb)
                               have n3_ := Aside0.mk (ho)
                               clear HO_6 HO1119 HB HO1126
                               have HO_6 := n0_; have HO1119 := n1_; have HB := n2_; have HO1129 := n3_
                               clear n0_ n1_ n2_ n3_ ho hb hg hat
                               refine hK.out _ _ ?_
                               clear hK K
                               refine norm_ (a' := ?_) ?_ ?_
                               rotate_left
                               · show Act.put _ (some 59) _ = _
                                 simp only [Act.put, List.setIfInBounds_toArray, List.set_cons_zero, List.set_cons_succ, i64_w, i32_w]
                                 rfl
                               refine pure_ (i := 11) (N := some 5) (v := ?_) (a' := ?_) #[true, true, true, true, true, true, true, true, true, true, true, true] rfl rfl (any_of HT_.out (by kernel_rfl)) (fun _ _ _ h => h) (Or.inl ⟨by rfl, ?_⟩) ?_ ?_
                               rotate_left
                               · intro w'
                                 go_simp
                                 with_reducible rfl
                               rotate_left
                               · simp only [Act.put, List.setIfInBounds_toArray, List.set_cons_zero, List.set_cons_succ, i64_w, i32_w]
                                 rfl
                               refine done_ (done_of HT_.out (by kernel_rfl)) ?_
                               try go_wp2
                               go_roundg k2
                               case measure => have := HK1.out; have := HK2.out; omega
                               case rel => exact ⟨(y1127), (wrap64 (x7_1 + 1)), (by first | rfl | (simp; done) | (simp [*]; done)), H', ⟨by have := HK1.out; have := HK2.out; omega⟩, ⟨by (with_reducible repeat (first | apply Kd.R_alloc | apply Kd.R_drewN | apply Kd.R_drew)); exact Kd.R_mono HO1129.out (fun _ hk => hk.1)⟩, ⟨by (with_reducible repeat (first | apply Kd.R_alloc | apply Kd.R_drewN | apply Kd.R_drew)); exact Kd.R_mono HO_6.out (fun _ hk => hk.2)⟩, ⟨by repeat (first | (with_reducible first | exact HB.out | apply below_alloc | apply pw_below_drewN | apply below_drew1) | exact HB.out)⟩⟩
                             · rw [if_neg c47] at H
                               exact absurd H (by simp)
                           · rw [if_neg c46] at H
                             exact absurd H (by simp)
                         · rw [if_neg c45] at H
                           exact absurd H (by simp)
                       · rw [if_neg c44] at H
                         exact absurd H (by simp)
                     · rw [if_neg c42] at H
                       exact absurd H (by simp)
                   · rw [if_neg c41] at H
                     exact absurd H (by simp)
                 · rw [if_neg c40] at H
                   exact absurd H (by simp)
         · rw [if_neg c10] at H
           exact absurd H (by simp)
       · rw [if_neg c9] at H
         have c9b0 : decide (x7_1 < (y1082.length : Int)) = false := decide_eq_false c9
         clear c9
         obtain rfl := Option.some.inj H
         obtain ⟨Ao58, co58, eo58⟩ := Kd.R_slice HO_6.out
         subst eo58
         go_wp2
         go_ret
         exact ⟨_, by first | rfl | (simp [errW_none, errW_some] <;> rfl) | (simp [*, errW_none, errW_some] <;> rfl), by (with_reducible repeat (first | apply Kd.R_alloc | apply Kd.R_drewN | apply Kd.R_drew)); exact Kd.R_mono HO_5.out (fun _ hk => trivial), by repeat (first | (with_reducible first | exact HB.out | apply below_alloc | apply pw_below_drewN | apply below_drew1) | exact HB.out)⟩
   · rw [if_neg c4] at H
     exact absurd H (by simp)
 · rw [if_neg c3] at H
   exact absurd H (by simp)
end Go.Proofs.YtjgcmmpfaemkiaaGreat.X
end
section
namespace Go.Proofs.YtjgcmmpfaemkiaaGreat.V
open Go.Vm
set_option linter.unusedVariables false
set_option linter.unusedSimpArgs false
theorem strs_C' {w : World} {S : Nat → Prop} {l : List ByteArray} {A : Option Addr} (hl : l.length ≤ 1000000)
    (h : 0 < l.length → ∃ ad inner, A = some ad ∧ S ad.block ∧ inner.length = l.length * 1 ∧ Go.Vm.CellsAt w ad inner ∧ RelL (RelC w S .str) l inner) : Go.Proofs.YtjgcmmpfaemkiaaGreatW.PrintWords.Kd.C Go.Proofs.YtjgcmmpfaemkiaaGreatW.PrintWords.Kd.string w A l.length l := by
  refine ⟨rfl, by omega, fun hp => ?_⟩
  obtain ⟨ad, inner, rfl, _, hi, hc, hr⟩ := h hp
  refine ⟨ad, rfl, fun j y hj => ?_⟩
  obtain ⟨a, c, b, e, ha, hy, _⟩ := hr.at_ (n := 1) (fun y c h => h.len) hj
  refine ⟨c, hy.len, ?_, fun i u hu => ?_⟩
  · exact hy
  · have hi1 : i < c.length := (List.getElem?_eq_some_iff.1 hu).1
    have := hc (j * 1 + i) u (by rw [e, List.append_assoc, List.getElem?_append_right (by omega), List.getElem?_append_left (by omega), ha]; simpa using hu)
    exact this
theorem strs_out {w w' : World} {S ok : Nat → Prop} {v : Value} {r : List ByteArray} (h : Go.Proofs.YtjgcmmpfaemkiaaGreatW.PrintWords.Kd.R Go.Proofs.YtjgcmmpfaemkiaaGreatW.PrintWords.Kd.string 9 w' w.heap.size ok v r) : RelC w' (Ext' S w w') (.sl 9 .str) r [v] := by
  obtain ⟨_, inner, ⟨hl, h⟩, hreps⟩ := h
  rcases h with ⟨rfl, hz⟩ | ⟨g, cap, cur, rfl, hg, hh, hn, hm, hs, ht⟩
  · rw [List.eq_nil_of_length_eq_zero hz]
    exact ⟨none, 0, rfl, Nat.le_refl _, fun h => absurd h (Nat.lt_irrefl 0)⟩
  · refine ⟨some ⟨g, 0, none⟩, cap, rfl, hn, fun _ => ⟨⟨g, 0, none⟩, inner, rfl, .inr ⟨hg, (Array.getElem?_eq_some_iff.1 hh).1⟩, hl, ?_, relL_of (n := 1) (fun y c h => h.len) r inner hl (fun i y hy => hreps.2 i y hy)⟩⟩
    intro i u hu
    have e2 : ((⟨g, 0, none⟩ : Addr).add i) = ⟨g, i, none⟩ := by unfold Addr.add; split <;> simp_all
    rw [e2, Go.Proofs.YtjgcmmpfaemkiaaGreatW.PrintWords.blk_cell hh]
    rw [← ht] at hu
    rw [List.getElem?_take] at hu
    split at hu
    · rw [← Array.getElem?_toList]; exact hu
    · cases hu
def althingref04_Join (k : Nat) (a b : List ByteArray) : Option (List ByteArray) := bif decide (a.length ≤ 1000000) && decide (b.length ≤ 1000000) then Go.Proofs.YtjgcmmpfaemkiaaGreat.X.althingref04_Join.f k a b else none
def althingref04_Join.spec (k : Nat) : Go.Vm.Spec := .pu [.val (.sl 9 .str), .val (.sl 9 .str)] (.sl 9 .str) (althingref04_Join k)
theorem althingref04_Join.ok (k : Nat) : SpecOk Tryz.prog 140 (althingref04_Join.spec k) := by
  refine ⟨Tryz.call140, fun w S S1 xs vs y h01 hlt hargs hy => ?_⟩
  obtain ⟨l0, l1, _⟩ := xs
  obtain ⟨v0, vs, rfl, h0, v1, vs', rfl, h1, hn⟩ := hargs
  have hn' : vs' = [] := hn
  subst hn'
  obtain ⟨A0, c0, e0, hc0, r0⟩ := h0
  obtain ⟨A1, c1, e1, hc1, r1⟩ := h1
  obtain rfl := List.singleton_inj.1 e0
  obtain rfl := List.singleton_inj.1 e1
  have hy' : althingref04_Join k l0 l1 = some y := hy
  unfold althingref04_Join at hy'
  cases hb : decide (l0.length ≤ 1000000) && decide (l1.length ≤ 1000000) with
  | false => rw [hb] at hy'; cases hy'
  | true =>
    rw [hb] at hy'
    simp only [Bool.and_eq_true, decide_eq_true_eq] at hb
    refine (Go.Proofs.YtjgcmmpfaemkiaaGreat.X.althingref04_Join.calls k A0 c0 l0 A1 c1 l1 y w (strs_C' hb.1 r0) hc0 (strs_C' hb.2 r1) hc1 hy').mono ?_
    rintro e w' ⟨v, rfl, hR, hB⟩
    exact ⟨v, rfl, strs_out hR, hB⟩
end Go.Proofs.YtjgcmmpfaemkiaaGreat.V
end
section
namespace Go.Proofs.YtjgcmmpfaemkiaaGreat.V
open Go.Vm Go.RowKit Go.Proofs.YtjgcmmpfaemkiaaGreatW.PrintWords Go.Proofs.YtjgcmmpfaemkiaaGreatW.PrintLast Go.Proofs.YtjgcmmpfaemkiaaGreatW.PrintMore
set_option linter.unusedVariables false
set_option linter.unusedSimpArgs false
noncomputable def repair_Decide_1 (k : Nat) (s : Int) : Option (Ty_repair_Vote.den → Option Bool) := some fun v => repair_Decide_1_1 k v s
noncomputable def repair_Decide_1.spec (k : Nat) : Go.Vm.Spec := .cl [.val Ty.i64] Ty_repair_Vote .bool (repair_Decide_1 k)
theorem repair_Decide_1.ok (k : Nat) : SpecOk Tryz.prog 92 (repair_Decide_1.spec k) := by
  refine ⟨Tryz.call92, fun w S S1 zs vs g h01 hlt hargs hg => ?_⟩
  obtain ⟨s, _⟩ := zs
  obtain ⟨v0, vs0, rfl, h0, hn⟩ := hargs
  have hn' : vs0 = [] := hn
  subst hn'
  have hv : v0 = .int .i64 s := by simpa [RelD, RelV1, RelC] using h0
  subst hv
  have hg' : (fun v => repair_Decide_1_1 k v s) = g := Option.some.inj hg
  subst hg'
  show Calls Tryz.prog 92 #[.int .i64 s] w _
  have H01 := Aside0.mk h01
  have HLT := Aside0.mk hlt
  clear h01 hlt hn h0 hg
  go_enter Tryz.func92, Tryz.ntmps92
  go_wp2_with (first
    | ((with_reducible refine gate_dst (N := 1) rfl ?_); refine box_event ?hg (N := 1) ?hd (cs := #[.int .i64 s]) (t := 3) ?hr ?_; (case hd => rfl); (case hg => rfl); (case hr => first | (go_simp; done) | (go_simp; rfl)); intro gi hg w4 hbox hb; have HB4 := Aside0.mk hb; have BI := Aside0.mk hbox; have GE := Aside0.mk hg; clear hbox hb hg))
  go_ret
  have hb := HB4.out
  have hbox := BI.out
  have hlt4 := blk_lt hbox
  refine ⟨_, rfl, ⟨93, #[.pointer (some ⟨gi, 0, none⟩)], rfl, Tryz.call93, fun w' S' k1 k2 k3 x vx y hx hy => ?_⟩, hb⟩
  have hgi : ∀ b, Ext' S w w4 b → w'.heap[b]? = w4.heap[b]? := k1
  have hge : Ext' S w w4 gi := .inr ⟨by have := GE.out; omega, hlt4⟩
  have hbox' : w'.heap[gi]? = some (.cells #[.int .i64 s] 3 (0, 0)) := (hgi gi hge).trans hbox
  have hok := ok_repair_Decide_1_1 k 93 (.pu repair_Decide_1_1.ps repair_Decide_1_1.r (repair_Decide_1_1 k)) (by unfold G_repair_Decide_1_1 ins; rfl)
  refine hok.2 w' S' (fun b => S' b ∨ b = gi) (x, s, ()) [vx, .pointer (some ⟨gi, 0, none⟩)] y (fun b hb => .inl hb) (fun b hb => ?_) ⟨_, _, rfl, hx, _, _, rfl, rfl, ⟨⟨gi, 0, none⟩, [.int .i64 s], rfl, .inr rfl, rfl, ?_⟩, rfl⟩ hy
  · rcases hb with hb | rfl
    · exact k3 b hb
    · exact blk_lt hbox'
  · intro j u hu
    have at0 : ((⟨gi, 0, none⟩ : Addr).add j) = ⟨gi, j, none⟩ := by unfold Addr.add; split <;> simp_all
    rw [at0, blk_cell hbox']
    simpa using hu
noncomputable def lead_Lead_Hear_1 (k : Nat) (x : Ty_lead_Lead.den) (m : Ty_api_Message.den) : Option (Ty_lead_Lead.den × Unit) := (quorum_With k x.2.2.2.1 m.2.1).bind fun n => some ((x.1, (x.2.1, (x.2.2.1, (n, x.2.2.2.2)))), ())
noncomputable def lead_Lead_Hear_1.spec (k : Nat) : Go.Vm.Spec := .wr Ty_lead_Lead [.ro Ty_api_Message] .unit (lead_Lead_Hear_1 k)
theorem lead_Lead_Hear_1.ok (k : Nat) : SpecOk Tryz.prog 36 (lead_Lead_Hear_1.spec k) := by
  refine ⟨Tryz.call36, fun w S S1 b cs tid x zs vs y h01 hlt hh hx hargs hy => ?_⟩
  obtain ⟨m, _⟩ := zs
  obtain ⟨v0, vs0, rfl, _, ⟨ad, mc, rfl, had, hmc, hmcell⟩, hn⟩ := hargs
  have hn' : vs0 = [] := hn
  subst hn'
  have hy' : (quorum_With k x.2.2.2.1 m.2.1).bind (fun n => some (((x.1, (x.2.1, (x.2.2.1, (n, x.2.2.2.2)))), ()) : Ty_lead_Lead.den × Unit)) = some y := hy
  cases hq : quorum_With k x.2.2.2.1 m.2.1 with
  | none => rw [hq] at hy'; cases hy'
  | some n =>
    rw [hq] at hy'
    obtain rfl := Option.some.inj hy'
    obtain ⟨_, _, e0, rfl, _, _, rfl, rfl, _, _, rfl, rfl, _, rest, rfl, rfl, hrest⟩ := hx
    obtain ⟨_, _, rfl, rfl, _, mrest, rfl, rfl, _⟩ := hmc
    have c3 : w.cell? ⟨b, 3, none⟩ = some (.int .i64 x.2.2.2.1) := by rw [blk_cell hh, ← Array.getElem?_toList, e0]; rfl
    have m1 : w.cell? ⟨ad.block, ad.off + 1, none⟩ = some (.int .i64 m.2.1) := hmcell 1 _ rfl
    have HQ := Aside0.mk hq
    have HH := Aside0.mk hh
    have HR := Aside0.mk hrest
    have HE := Aside0.mk e0
    have HLT := Aside0.mk hlt
    have H01 := Aside0.mk h01
    clear hq hy hy' hn h01 hlt hmcell had hrest e0
    show Calls Tryz.prog 36 #[.pointer (some ⟨b, 0, none⟩), .pointer (some ad)] w _
    go_enter Tryz.func36, Tryz.ntmps36
    go_wp2_with (first
      | (go_at_call 37; refine ((ok_quorum_With k 37 (.pu quorum_With.ps quorum_With.r (quorum_With k)) (by unfold G_quorum_With ins; rfl)).2 w S S (x.2.2.2.1, m.2.1, ()) [.int .i64 x.2.2.2.1, .int .i64 m.2.1] n (fun _ h => h) (fun i hi => (HLT.out i (H01.out i hi)).1) ⟨_, _, rfl, rfl, _, _, rfl, rfl, rfl⟩ HQ.out).mono ?_; rintro e w1 ⟨v, rfl, hv, hb⟩; (have hv' : v = .int .i64 n := by simpa [RelD, RelV1, RelC] using hv); subst hv'; have HB := Aside0.mk hb; (have c4 : w1.cell? ⟨b, 3, none⟩ = some (.int .i64 x.2.2.2.1) := by rw [blk_cell ((hb.block b (blk_lt HH.out)).trans HH.out), ← Array.getElem?_toList, HE.out]; rfl); (have f4 : w1.frozen? ⟨b, 3, none⟩ = false := by unfold World.frozen?; rw [(hb.block b (blk_lt HH.out)).trans HH.out]; rfl); clear hv hb))
    go_end0
    have hb := HB.out
    have h1 : w1.heap[b]? = some (.cells cs tid (0, 0)) := (hb.block b (blk_lt HH.out)).trans HH.out
    have hlt1 := blk_lt h1
    have hset : w1.setCell ⟨b, 3, none⟩ (.int .i64 n) = { w1 with heap := w1.heap.setIfInBounds b (.cells (cs.setIfInBounds 3 (.int .i64 n)) tid (0, 0)) } := by
      unfold World.setCell
      congr 1
      apply Array.ext_getElem?
      intro i
      rw [Array.getElem?_modify, Array.getElem?_setIfInBounds]
      by_cases hi : b = i
      · subst hi
        rw [if_pos rfl, if_pos rfl, if_pos hlt1, h1]; rfl
      · rw [if_neg hi, if_neg hi]
    rw [hset]
    have hsize : (w1.heap.setIfInBounds b (.cells (cs.setIfInBounds 3 (.int .i64 n)) tid (0, 0))).size = w1.heap.size := by simp
    have hoth : ∀ i, i ≠ b → (w1.heap.setIfInBounds b (.cells (cs.setIfInBounds 3 (.int .i64 n)) tid (0, 0)))[i]? = w1.heap[i]? := fun i hi => Array.getElem?_setIfInBounds_ne (Ne.symm hi)
    have hS : ∀ i, S i → i < w.heap.size ∧ i ≠ b := fun i hi => HLT.out i (H01.out i hi)
    refine ⟨_, cs.setIfInBounds 3 (.int .i64 n), tid, rfl, rfl, by simp [hlt1], ?_, hb.os, hb.tape, hb.output, by rw [hsize]; exact hb.size, fun i hi hne => (hoth i hne).trans (hb.block i hi)⟩
    have hcs : (cs.setIfInBounds 3 (.int .i64 n)).toList = [.int .i64 x.1] ++ ([.int .i64 x.2.1] ++ ([.int .i64 x.2.2.1] ++ ([.int .i64 n] ++ rest))) := by
      rw [Array.toList_setIfInBounds, HE.out]; rfl
    rw [hcs]
    refine ⟨_, _, rfl, rfl, _, _, rfl, rfl, _, _, rfl, rfl, _, _, rfl, rfl, ?_⟩
    exact RelC.move (w := w) (S := S) (fun i hi => (hoth i (hS i hi).2).trans (hb.block i (hS i hi).1)) (fun i hi => .inl hi) HR.out
end Go.Proofs.YtjgcmmpfaemkiaaGreat.V
end
