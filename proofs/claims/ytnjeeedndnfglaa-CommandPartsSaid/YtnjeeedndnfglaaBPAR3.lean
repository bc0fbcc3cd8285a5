/- What the claim PAR leans on: texts joined by bundle.py, a program of ours; the words cut down to what is used. -/
import Derived.Test.YtnjeeedndnfglaaBPAR2
import Derived.Test.YtnjeeedndnfglaaProg
import Derived.Shelf.Sort.Plain
import Derived.Shelf.Slices.Turned
import Derived.Shelf.Slices.In.SortNone
import Derived.Sort.OwnSorted
import Derived.Maps.Own
import Derived.Maps.OwnOps
import Derived.Maps.Views
import Derived.StringKeys
section
namespace Go.Proofs
open Go.Shelf
def Try.lays190_ren : Go.Shelf.Ren := ⟨fun | 190 => 56 | 125 => 62 | 258 => 61 | 128 => 73 | 129 => 74 | 302 => 64 | 303 => 65 | 304 => 66 | 305 => 67 | 306 => 68 | 307 => 69 | 308 => 70 | 309 => 71 | 310 => 72 | 333 => 76 | 329 => 77 | 330 => 78 | 334 => 79 | 335 => 80 | 336 => 81 | 344 => 82 | n => n, fun | 31 => 45 | 9 => 9 | 3 => 3 | 46 => 82 | 0 => 0 | 51 => 94 | 53 => 96 | 4 => 4 | 183 => 87 | 182 => 86 | 131 => 91 | 5 => 5 | 218 => 98 | 222 => 102 | 228 => 104 | 229 => 83 | n => n, fun | n => n⟩
theorem Try.lays190 : Go.Proofs.Lays.n190 Try.prog Try.lays190_ren := {
  mixed := by kernel_rfl
  f125 := Try.func62.trans (congrArg some (by kernel_rfl))
  f128 := Try.func73.trans (congrArg some (by kernel_rfl))
  f129 := Try.func74.trans (congrArg some (by kernel_rfl))
  f190 := Try.func56.trans (congrArg some (by kernel_rfl))
  f258 := Try.func61.trans (congrArg some (by kernel_rfl))
  f302 := Try.func64.trans (congrArg some (by kernel_rfl))
  f303 := Try.func65.trans (congrArg some (by kernel_rfl))
  f304 := Try.func66.trans (congrArg some (by kernel_rfl))
  f305 := Try.func67.trans (congrArg some (by kernel_rfl))
  f306 := Try.func68.trans (congrArg some (by kernel_rfl))
  f307 := Try.func69.trans (congrArg some (by kernel_rfl))
  f308 := Try.func70.trans (congrArg some (by kernel_rfl))
  f309 := Try.func71.trans (congrArg some (by kernel_rfl))
  f310 := Try.func72.trans (congrArg some (by kernel_rfl))
  f329 := Try.func77.trans (congrArg some (by kernel_rfl))
  f330 := Try.func78.trans (congrArg some (by kernel_rfl))
  f333 := Try.func76.trans (congrArg some (by kernel_rfl))
  f334 := Try.func79.trans (congrArg some (by kernel_rfl))
  f335 := Try.func80.trans (congrArg some (by kernel_rfl))
  f336 := Try.func81.trans (congrArg some (by kernel_rfl))
  f344 := Try.func82.trans (congrArg some (by kernel_rfl))
  t0 := Try.underlying0
  a0 := Try.isAgg0
  z0 := Try.sizeOf0
  v0 := Try.zeroValue0
  t3 := Try.underlying3
  a3 := Try.isAgg3
  z3 := Try.sizeOf3
  v3 := Try.zeroValue3
  t4 := Try.underlying4
  a4 := Try.isAgg4
  z4 := Try.sizeOf4
  v4 := Try.zeroValue4
  t5 := Try.underlying5
  a5 := Try.isAgg5
  z5 := Try.sizeOf5
  v5 := Try.zeroValue5
  t9 := Try.underlying9
  a9 := Try.isAgg9
  z9 := Try.sizeOf9
  v9 := Try.zeroValue9
  t31 := Try.underlying45
  a31 := Try.isAgg45
  z31 := Try.sizeOf45
  v31 := Try.zeroValue45
  t46 := Try.underlying82
  a46 := Try.isAgg82
  z46 := Try.sizeOf82
  v46 := Try.zeroValue82
  t51 := Try.underlying94
  a51 := Try.isAgg94
  z51 := Try.sizeOf94
  v51 := Try.zeroValue94
  t53 := Try.underlying96
  a53 := Try.isAgg96
  z53 := Try.sizeOf96
  v53 := Try.zeroValue96
  t131 := Try.underlying91
  a131 := Try.isAgg91
  z131 := Try.sizeOf91
  v131 := Try.zeroValue91
  t182 := Try.underlying86
  a182 := Try.isAgg86
  z182 := Try.sizeOf86
  v182 := Try.zeroValue86
  t183 := Try.underlying87
  a183 := Try.isAgg87
  z183 := Try.sizeOf87
  v183 := Try.zeroValue87
  t218 := Try.underlying98
  a218 := Try.isAgg98
  z218 := Try.sizeOf98
  v218 := Try.zeroValue98
  t222 := Try.underlying102
  a222 := Try.isAgg102
  z222 := Try.sizeOf102
  v222 := Try.zeroValue102
  t228 := Try.underlying104
  a228 := Try.isAgg104
  z228 := Try.sizeOf104
  v228 := Try.zeroValue104
  t229 := Try.underlying83
  a229 := Try.isAgg83
  z229 := Try.sizeOf83
  v229 := Try.zeroValue83 }
open Go.Sort Go.RowKit in
theorem Try.slices_Sort_string (blk off cap : Nat) (ss : List (List UInt8)) (w : World) (hH : Holds encStr w blk off ss.toArray) (hblk : blk < w.heap.size) (hsz : ss.length < 4611686018427387904) :
    Calls Try.prog 56 #[.slice (some ⟨blk, off, none⟩) ss.length cap] w fun e w' =>
      e = .returned (.tuple #[]) ∧ ∃ n os, w' = grow (putRow encStr (Sort.ahead w n) blk off (ss.mergeSort fun x y => decide (x ≤ y)).toArray) os := Any.slices_Sort_string Try.lays190 blk off cap ss w hH hblk hsz
open Go.Lib in
open Go.Lib in
def Try.lays110_ren : Go.Shelf.Ren := ⟨fun | 110 => 48 | 109 => 58 | n => n, fun | 31 => 45 | 9 => 9 | 4 => 4 | 3 => 3 | 0 => 0 | n => n, fun | n => n⟩
theorem Try.lays110 : Go.Proofs.Lays.n110 Try.prog Try.lays110_ren := {
  mixed := by kernel_rfl
  f109 := Try.func58.trans (congrArg some (by kernel_rfl))
  f110 := Try.func48.trans (congrArg some (by kernel_rfl))
  t0 := Try.underlying0
  a0 := Try.isAgg0
  z0 := Try.sizeOf0
  v0 := Try.zeroValue0
  t3 := Try.underlying3
  a3 := Try.isAgg3
  z3 := Try.sizeOf3
  v3 := Try.zeroValue3
  t4 := Try.underlying4
  a4 := Try.isAgg4
  z4 := Try.sizeOf4
  v4 := Try.zeroValue4
  t9 := Try.underlying9
  a9 := Try.isAgg9
  z9 := Try.sizeOf9
  v9 := Try.zeroValue9
  t31 := Try.underlying45
  a31 := Try.isAgg45
  z31 := Try.sizeOf45
  v31 := Try.zeroValue45 }
open Go.Lib in
theorem Try.slices_Contains_string (b off n c : Nat) (zs : List ByteArray) (x : ByteArray) (w : World) (hz : n ≤ zs.length) (hbig : n ≤ 9223372036854775807) (hc : ∀ j, j < zs.length → w.cell? ⟨b, off + j, none⟩ = some (.string (zs.getD j ByteArray.empty))) :
    Calls Try.prog 48 #[.slice (some ⟨b, off, none⟩) n c, .string x] w fun e w' => e = .returned (.bool (Lib.containsS (zs.take n) x)) ∧ w' = w := Any.slices_Contains_string Try.lays110 b off n c zs x w hz hbig hc
open Go.Lib in
theorem Try.slices_Contains_string_empty (a : Option Addr) (c : Nat) (x : ByteArray) (w : World) :
    Calls Try.prog 48 #[.slice a 0 c, .string x] w fun e w' => e = .returned (.bool false) ∧ w' = w := Any.slices_Contains_string_empty Try.lays110 a c x w
open Go.RowKit Go.Sort in
theorem Try.slices_Sort_string_none (p : Option Addr) (cap : Nat) (w : World) :
    Calls Try.prog 56 #[.slice p 0 cap] w fun e w' => e = .returned (.tuple #[]) ∧ w' = w := Any.slices_Sort_string_none Try.lays190 p cap w
end Go.Proofs
end
section
namespace Go.Proofs.Ytnjeeedndnfglaa.Strs
open Go.RowKit Go.Maps Go.WideMaps Go.Sort Go.Proofs.YtnjeeedndnfglaaW.PrintWords Go.Proofs.YtnjeeedndnfglaaW.PrintLast Go.Proofs.YtnjeeedndnfglaaW.PrintMore Go.Proofs.Ytnjeeedndnfglaa.X
set_option linter.unusedSimpArgs false
set_option linter.unusedVariables false
def big (l : List ByteArray) : Prop := l.length ≤ 1000 ∧ ∀ x ∈ l, x.size ≤ 2000
theorem keyLaw : Keyed Try.prog 9 := string_keyed Try.underlying9
theorem zeroInt (w : World) : (zeroValue 3).run Try.prog w = .ok (.int .i64 0) w := by kernel_rfl
def klOf (s : ByteArray) : Lit := .string s.data.toList
def came (ps : List ByteArray) (s : ByteArray) : Nat := ps.countP (fun y => decide (y.data.toList = s.data.toList))
theorem came_snoc (ps : List ByteArray) (x s : ByteArray) : came (ps ++ [x]) s = came ps s + if x.data.toList = s.data.toList then 1 else 0 := by
  unfold came
  rw [List.countP_append, List.countP_singleton]
  simp only [decide_eq_true_eq]
theorem came_le (ps : List ByteArray) (s : ByteArray) : came ps s ≤ ps.length := List.countP_le_length
theorem came_zero (ps : List ByteArray) (s : ByteArray) : came ps s = 0 ↔ s ∉ ps := by
  unfold came
  rw [List.countP_eq_zero]
  constructor
  · intro h hs; exact absurd (decide_eq_true rfl) (h s hs)
  · intro h y hy he; exact h (bytes_ext (of_decide_eq_true he) ▸ hy)
theorem map_block {H : Type} {P : Program} {w w' : World} {k : TypeId} {R : Value → Option (DataW H × List MemPlace)} {b n : Nat} {D : DataW H} (h : w.ownsMap P k R b n D) (e : w'.heap[b]? = w.heap[b]?) : w'.ownsMap P k R b n D := by
  obtain ⟨es, clock, hb, r⟩ := h
  exact ⟨es, clock, e.trans hb, r⟩
theorem own_grown {w w' : World} {B e size n : Nat} {v : Value} {xs : List Value} {b : Nat} (h : w.ownsRow B e size v n xs) (hg : w.grownBy w' (some b)) (hb : b < B) : w'.ownsRow B e size v n xs := by
  refine ⟨h.1, ?_⟩
  rcases h.2 with h0 | ⟨g, cap, cur, hv, hB, hh, rest⟩
  · exact .inl h0
  · refine .inr ⟨g, cap, cur, hv, hB, ?_, rest⟩
    rw [hg.block g (Array.getElem?_eq_some_iff.1 hh).1 (by simp; omega)]
    exact hh

theorem run_index_sl {P : Program} (T e e2 : TypeId) (n : Nat) (k : IntKind) (hT : P.underlying T = some (.array n e)) (he : P.underlying e = some (.slice e2)) (hs : (P.info? e).map (·.size) = some 1)
    (w : World) (cs : Array Value) (i : Int) (h0 : 0 ≤ i) (h1 : i < n) (hc : cs.size = n) :
    (Instr.index T (.agg cs) (.int k i)).run P w = .ok (cs.getD i.toNat undef) w := by
  obtain ⟨ti, hi, hs1⟩ := Option.map_eq_some_iff.1 hs
  have hi2 : i.toNat < cs.size := by omega
  have hagg : (isAgg e).run P w = .ok false w := by
    unfold isAgg
    rw [Sem.run_bind, run_underlying he w]
    simp
  simp [Instr.index, asIntOf, Sem.run_bind, run_underlying hT, h0, h1, sizeOf, typeInfo, hi, hs1, part, hagg, hi2]
theorem c_cells {w : World} {A : Option Addr} {l : List ByteArray} (h : Kd.C Kd.string w A l.length l) : ∀ j, j < l.length → ∃ ad : Addr, A = some ad ∧ w.cell? (ad.add j) = some (.string (l.getD j ByteArray.empty)) ∧ ad.block < w.heap.size ∧ (ad.add j).block = ad.block := by
  intro j hj
  obtain ⟨ad, rfl, hc⟩ := h.2.2 (by omega)
  obtain ⟨c, hl, hk, hcell⟩ := hc j _ (List.getElem?_eq_getElem hj)
  have e : c = [.string (l.getD j ByteArray.empty)] := by
    have : c = [Value.string l[j]] := hk
    rw [this]; simp [List.getD_eq_getElem?_getD, hj]
  subst e
  have h3 := hcell 0 _ rfl
  rw [show j * Kd.string.sz + 0 = j by simp [Kd.string, Kd.scalar]] at h3
  have hb : (ad.add j).block = ad.block := by unfold Addr.add; split <;> rfl
  exact ⟨ad, rfl, h3, by rw [← hb]; exact World.block_lt_of_cell? w _ h3, hb⟩

structure JoinState (w wr : World) (v : Value) (out ps : List ByteArray) (D : DataW Nat) : Prop where
  own : wr.ownsRow (w.heap.size + 1) 9 1 v out.length (out.map Value.string)
  map : wr.ownsMap Try.prog 9 (plainElem Try.prog 3) w.heap.size ps.length D
  atk : ∀ s : ByteArray, D.atKey (klOf s) (.lit (.int .i64 0)) = .lit (.int .i64 (came ps s))
  isMap : IsMap D
  nodup : out.Nodup
  mem : ∀ x, x ∈ out ↔ x ∈ ps
  len : out.length ≤ ps.length
  below : Below w.heap.size w wr
  size : w.heap.size + 1 ≤ wr.heap.size

theorem state_atk {D : DataW Nat} {ps : List ByteArray} (x : ByteArray) (c : Int) (hc : c = ((came ps x : Nat) : Int) + 1) (hD : IsMap D) (h : ∀ s : ByteArray, D.atKey (klOf s) (.lit (.int .i64 0)) = .lit (.int .i64 (came ps s))) (s : ByteArray) :
    (D.put (.string x.data.toList) (.lit (.int .i64 c))).atKey (klOf s) (.lit (.int .i64 0)) = .lit (.int .i64 (came (ps ++ [x]) s)) := by
  by_cases hx : x.data.toList = s.data.toList
  · have e : klOf s = .string x.data.toList := by unfold klOf; rw [hx]
    rw [e, atKey_put_same hD (by trivial), came_snoc, if_pos hx, hc]
    have : came ps x = came ps s := by unfold came; rw [hx]
    rw [this]; rfl
  · rw [atKey_put_other (by unfold klOf; intro e; injection e with e; exact hx e.symm), h s, came_snoc, if_neg hx, Nat.add_zero]
theorem JoinState.seen {w wr w1 : World} {v : Value} {out ps : List ByteArray} {D : DataW Nat} (hS : JoinState w wr v out ps D) (x : ByteArray) (hin : x ∈ ps) (c : Int) (hc : c = ((came ps x : Nat) : Int) + 1)
    (hm : w1.ownsMap Try.prog 9 (plainElem Try.prog 3) w.heap.size (ps.length + 1) (D.put (.string x.data.toList) (.lit (.int .i64 c)))) (hg : wr.grownBy w1 (some w.heap.size)) :
    JoinState w w1 v out (ps ++ [x]) (D.put (.string x.data.toList) (.lit (.int .i64 c))) where
  own := own_grown hS.own hg (Nat.lt_succ_self _)
  map := by rw [List.length_append]; exact hm
  atk := state_atk x c hc hS.isMap hS.atk
  isMap := hS.isMap.put _ _
  nodup := hS.nodup
  mem := fun y => by
    rw [List.mem_append, List.mem_singleton, hS.mem]
    constructor
    · exact .inl
    · rintro (h | rfl)
      · exact h
      · exact hin
  len := by rw [List.length_append]; have := hS.len; simp only [List.length_singleton]; omega
  below := hS.below.grown hg (by have := hS.size; omega) (fun k hk => by cases hk; exact Nat.le_refl _)
  size := Nat.le_trans hS.size hg.size
theorem JoinState.fresh {w wr w1 w2 : World} {v v1 : Value} {out ps : List ByteArray} {D : DataW Nat} (hS : JoinState w wr v out ps D) (x : ByteArray) (hin : x ∉ ps) (c : Int) (hc : c = ((came ps x : Nat) : Int) + 1)
    (hm : w1.ownsMap Try.prog 9 (plainElem Try.prog 3) w.heap.size (ps.length + 1) (D.put (.string x.data.toList) (.lit (.int .i64 c)))) (hg : wr.grownBy w1 (some w.heap.size))
    (ho : w2.ownsRow (w.heap.size + 1) 9 1 v1 (out.length + 1) (out.map Value.string ++ [.string x])) (hb : Below (w.heap.size + 1) w1 w2) :
    JoinState w w2 v1 (out ++ [x]) (ps ++ [x]) (D.put (.string x.data.toList) (.lit (.int .i64 c))) where
  own := by rw [List.length_append, List.map_append]; exact ho
  map := by rw [List.length_append]; exact map_block hm (hb.block _ (Nat.lt_succ_self _))
  atk := state_atk x c hc hS.isMap hS.atk
  isMap := hS.isMap.put _ _
  nodup := by
    rw [List.nodup_append]
    refine ⟨hS.nodup, by simp, fun a ha b hb2 => ?_⟩
    rw [List.mem_singleton] at hb2
    subst hb2
    intro e; subst e; exact hin ((hS.mem _).1 ha)
  mem := fun y => by rw [List.mem_append, List.mem_append, hS.mem]
  len := by rw [List.length_append, List.length_append]; have := hS.len; simp only [List.length_singleton]; omega
  below := (hS.below.grown hg (by have := hS.size; omega) (fun k hk => by cases hk; exact Nat.le_refl _)).trans (hb.mono (by omega))
  size := Nat.le_trans (Nat.le_trans hS.size hg.size) hb.size

def srt (l : List ByteArray) : List ByteArray := ((l.map (fun x => x.data.toList)).mergeSort (fun x y => decide (x ≤ y))).map (fun b => ⟨b.toArray⟩)
theorem enc_map (l : List ByteArray) : l.map Value.string = (l.map (fun x => x.data.toList)).map encStr := by
  rw [List.map_map]
  apply List.map_congr_left
  intro x _
  simp [encStr]
theorem enc_map' (l : List (List UInt8)) : (l.map (fun b => (⟨b.toArray⟩ : ByteArray))).map Value.string = l.map encStr := by
  rw [List.map_map]
  apply List.map_congr_left
  intro x _
  simp [encStr]
theorem srt_length (l : List ByteArray) : (srt l).length = l.length := by simp [srt]
theorem own_lower {w : World} {B B' e size n : Nat} {v : Value} {xs : List Value} (h : w.ownsRow B e size v n xs) (hB : B' ≤ B) : w.ownsRow B' e size v n xs := own_weaken h hB
theorem srt_joined {l ps : List ByteArray} (hn : l.Nodup) (hm : ∀ x, x ∈ l ↔ x ∈ ps) : (srt l).Pairwise blt ∧ ∀ x, x ∈ srt l ↔ x ∈ ps := by
  have hmem : ∀ x, x ∈ srt l ↔ x ∈ l := by
    intro x
    unfold srt
    rw [List.mem_map]
    constructor
    · rintro ⟨b, hb, rfl⟩
      rw [List.mem_mergeSort, List.mem_map] at hb
      obtain ⟨y, hy, rfl⟩ := hb
      exact hy
    · intro hx
      exact ⟨x.data.toList, by rw [List.mem_mergeSort, List.mem_map]; exact ⟨x, hx, rfl⟩, by simp⟩
  refine ⟨?_, fun x => (hmem x).trans (hm x)⟩
  have hp : ((l.map (fun x => x.data.toList)).mergeSort (fun x y => decide (x ≤ y))).Pairwise (fun x y => decide (x ≤ y) = true) :=
    List.pairwise_mergeSort (fun a b c h1 h2 => by simp only [decide_eq_true_eq] at *; exact Std.le_trans h1 h2) (fun a b => by simp only [Bool.or_eq_true, decide_eq_true_eq]; exact Std.le_total) _
  have hnd : ((l.map (fun x => x.data.toList)).mergeSort (fun x y => decide (x ≤ y))).Nodup := by
    rw [(List.mergeSort_perm _ _).nodup_iff]
    rw [List.nodup_iff_pairwise_ne, List.pairwise_map]
    exact (List.nodup_iff_pairwise_ne.1 hn).imp (fun hne e => hne (bytes_ext e))
  unfold srt
  rw [List.pairwise_map]
  have h2 := hp.and (List.nodup_iff_pairwise_ne.1 hnd)
  refine h2.imp ?_
  rintro a b ⟨hle, hne⟩
  rw [decide_eq_true_eq] at hle
  show (⟨a.toArray⟩ : ByteArray).data.toList < (⟨b.toArray⟩ : ByteArray).data.toList
  rcases Std.lt_trichotomy a b with h1 | h1 | h1
  · exact h1
  · exact absurd h1 hne
  · exact absurd hle (by rw [List.not_le]; exact h1)
theorem sort_any {B : Nat} (v : Value) (out : List ByteArray) (W : World) (h : W.ownsRow B 9 1 v out.length (out.map Value.string)) (hl : out.length ≤ 4000) :
    Calls Try.prog 56 #[v] W fun e w' => e = .returned (.tuple #[]) ∧ w'.ownsRow B 9 1 v out.length ((srt out).map Value.string) ∧ W.grownBy w' v.ownBlock := by
  rcases h.2 with ⟨rfl, hn⟩ | ⟨g, cap, cur, rfl, hbase, hb, h1, h2, h3, h4⟩
  · refine (Try.slices_Sort_string_none none 0 W).mono ?_
    rintro e w' ⟨rfl, rfl⟩
    have h0 : out = [] := by simpa using hn
    subst h0
    exact ⟨rfl, by simpa [srt] using h, World.grownBy.refl _ _⟩
  · have hc : (out.map (fun x => x.data.toList)).length = out.length := by simp
    have e4 : cur.toList.take (out.map (fun x => x.data.toList)).length = (out.map (fun x => x.data.toList)).map encStr := by rw [hc, ← enc_map]; simpa using h4
    have H := Try.slices_Sort_string g 0 cap (out.map (fun x => x.data.toList)) W (holds_of_block hb e4) (Array.getElem?_eq_some_iff.1 hb).1 (by rw [hc]; omega)
    rw [hc] at H
    refine H.mono ?_
    rintro e w' ⟨rfl, n, os, rfl⟩
    refine ⟨rfl, ?_, ?_⟩
    · have h5 := ownsRow_sorted (w := W) (n := n) (os := os) (ss := out.map (fun x => x.data.toList)) (ts := (out.map (fun x => x.data.toList)).mergeSort fun x y => decide (x ≤ y)) (by simp) hbase hb (by rw [hc]; exact h1) h2 (by simpa using h3)
      rw [hc] at h5
      unfold srt
      rw [enc_map']
      exact h5
    · exact grownBy_sorted _

set_option maxRecDepth 1000000 in
set_option maxHeartbeats 8000000 in
theorem join_any (A0 A1 : Option Addr) (c0 c1 : Nat) (l0 l1 : List ByteArray) (w : World) (h0 : Kd.C Kd.string w A0 l0.length l0) (h1 : Kd.C Kd.string w A1 l1.length l1) (f0 : big l0) (f1 : big l1) :
    Calls Try.prog 43 #[.slice A0 l0.length c0, .slice A1 l1.length c1] w fun e w' => ∃ v r, e = .returned v ∧ w'.ownsRow w.heap.size 9 1 v r.length (r.map Value.string) ∧ Joined l0 l1 r ∧ Below w.heap.size w w' := by
  have hi : (Try.prog.info? 9).map (fun i => (i.zero, i.size, i.bytes)) = some (some (.string ByteArray.empty), 1, 16) := by kernel_rfl
  have HI := Lib.hid hi
  clear hi
  have hmm := @run_makeMap Try.prog
  have hidx : ∀ (w : World) (x y : Value) (i : Int), 0 ≤ i → i < 2 → (Instr.index 72 (.agg #[x, y]) (.int .i64 i)).run Try.prog w = .ok ((#[x, y] : Array Value).getD i.toNat undef) w := fun w x y i h0 h1 => run_index_sl 72 45 9 2 .i64 Try.underlying72 Try.underlying45 (by kernel_rfl) w _ i h0 h1 rfl
  have K0 := Lib.hid (c_cells h0)
  have K1 := Lib.hid (c_cells h1)
  have n0 := f0.1
  have n1 := f1.1
  have F0 := Lib.hid f0.2
  have F1 := Lib.hid f1.2
  clear h0 h1 f0 f1
  go_enter Try.func43, Try.ntmps43
  go_wp2
  refine wp_loop_rounds 3 ?_
  rw [rounds_succ]
  go_wp2
  go_loopw [6, 20] (fun v i wr => ∃ (j : Nat) (out : List ByteArray) (D : DataW Nat), j ≤ l0.length ∧ i = .int .i64 j ∧ Hid (JoinState w wr v out (l0.take (j)) D)) (fun _ i _ => l0.length - (intOf i).toNat)
  case atStart => exact ⟨0, [], .map [], by omega, rfl, Lib.hid ⟨own_none _ _ _ _, World.ownsMap_made w _ _ _, fun s => by simp [came, DataW.atKey], isMap_empty, by simp, by simp, by simp, (Below.refl _ w).alloc (Nat.le_refl _) _, by simp⟩⟩
  case round =>
    obtain ⟨j, out, D, hj, rfl, hS⟩ := hrel
    by_cases hlt : j < l0.length
    · obtain ⟨ad, rfl, hc, hk, ha⟩ := K0.out j hlt
      have hcell : wr.cell? (ad.add j) = some (.string (l0.getD j ByteArray.empty)) := by rw [hS.out.below.cell (p := ad.add j) (by rw [ha]; exact hk), hc]
      have hel : l0.getD j ByteArray.empty = l0[j] := by simp [List.getD_eq_getElem?_getD, hlt]
      have hmem : l0.getD j ByteArray.empty ∈ l0 := by rw [hel]; exact List.getElem_mem hlt
      have htake : (l0.take (j + 1)) = (l0.take (j)) ++ [l0.getD j ByteArray.empty] := by rw [hel, List.take_succ_eq_append_getElem hlt]
      have hxs := F0.out _ hmem
      clear hc hk ha hmem hel
      generalize l0.getD j ByteArray.empty = x at hcell htake hxs
      have HT := Lib.hid htake
      have hlen : x.size ≤ maxLen := by unfold maxLen; omega
      have hpl : (l0.take (j)).length = j := by rw [List.length_take]; omega
      have hsz := hS.out.size
      have hcm := came_le (l0.take (j)) x
      clear htake
      have hlo := hS.out.len
      by_cases hin : x ∈ (l0.take (j))
      · have h0 : came (l0.take (j)) x ≠ 0 := fun e => (came_zero _ _).1 e hin
        have h1 : (((came (l0.take (j)) x : Nat) : Int) + 1 == 1) = false := by simp; omega
        go_wp2_with (first | (at_lookup; refine wpList_lookup_own_int _ rfl _ _ 71 rfl 9 3 .i64 keyLaw Try.underlying71 Try.underlying3 (zeroInt _) w.heap.size _ _ rfl hS.out.map _ _ rfl (keyOf_string_mk Try.underlying9 hlen) ?_; intro c hat hwc; have hcE : c = ((came (l0.take (j)) x : Nat) : Int) := (by have h2 := hS.out.atk x; rw [show klOf x = Lit.string x.data.toList from rfl, hat] at h2; injection h2 with h2; injection h2); subst hcE; clear hat hwc) | (at_mapUpdate; refine wpList_mapUpdate_own _ rfl _ _ _ 71 rfl 9 3 keyLaw Try.underlying71 _ w.heap.size _ _ rfl hS.out.map (by unfold maxLen; omega) _ _ _ rfl rfl (keyOf_string_mk Try.underlying9 hlen) _ [] (plainElem_int Try.underlying3 (WalkArith.wf_i64 (by omega))) ?_; intro w1 hown1 hgrow1; have HM1 := Lib.hid hown1; have HG1 := Lib.hid hgrow1; have hs1 := hgrow1.size; have HO1 := Lib.hid (own_grown hS.out.own hgrow1 (Nat.lt_succ_self _)); clear hown1 hgrow1) | (at_lookup; refine wpList_lookup_own_int _ rfl _ _ 71 rfl 9 3 .i64 keyLaw Try.underlying71 Try.underlying3 (zeroInt _) w.heap.size _ _ rfl HM1.out _ _ rfl (keyOf_string_mk Try.underlying9 hlen) ?_; intro c2 hat hwc; have hcE2 : c2 = ((came (l0.take (j)) x : Nat) : Int) + 1 := (by rw [atKey_put_same hS.out.isMap (by trivial)] at hat; injection hat with hat; injection hat with _ hat; exact hat.symm); subst hcE2; clear hat hwc))
        go_roundw
        case rel => exact ⟨j + 1, _, _, by omega, by go_num, Lib.hid (by rw [HT.out]; exact hS.out.seen x hin _ rfl HM1.out HG1.out)⟩
        case measure => simp [intOf]; omega
      · have h0 : came (l0.take (j)) x = 0 := (came_zero _ _).2 hin
        have h1 : (((came (l0.take (j)) x : Nat) : Int) + 1 == 1) = true := by simp; omega
        go_wp2_with (first | (at_lookup; refine wpList_lookup_own_int _ rfl _ _ 71 rfl 9 3 .i64 keyLaw Try.underlying71 Try.underlying3 (zeroInt _) w.heap.size _ _ rfl hS.out.map _ _ rfl (keyOf_string_mk Try.underlying9 hlen) ?_; intro c hat hwc; have hcE : c = ((came (l0.take (j)) x : Nat) : Int) := (by have h2 := hS.out.atk x; rw [show klOf x = Lit.string x.data.toList from rfl, hat] at h2; injection h2 with h2; injection h2); subst hcE; clear hat hwc) | (at_mapUpdate; refine wpList_mapUpdate_own _ rfl _ _ _ 71 rfl 9 3 keyLaw Try.underlying71 _ w.heap.size _ _ rfl hS.out.map (by unfold maxLen; omega) _ _ _ rfl rfl (keyOf_string_mk Try.underlying9 hlen) _ [] (plainElem_int Try.underlying3 (WalkArith.wf_i64 (by omega))) ?_; intro w1 hown1 hgrow1; have HM1 := Lib.hid hown1; have HG1 := Lib.hid hgrow1; have hs1 := hgrow1.size; have HO1 := Lib.hid (own_grown hS.out.own hgrow1 (Nat.lt_succ_self _)); clear hown1 hgrow1) | (at_lookup; refine wpList_lookup_own_int _ rfl _ _ 71 rfl 9 3 .i64 keyLaw Try.underlying71 Try.underlying3 (zeroInt _) w.heap.size _ _ rfl HM1.out _ _ rfl (keyOf_string_mk Try.underlying9 hlen) ?_; intro c2 hat hwc; have hcE2 : c2 = 1 := (by rw [atKey_put_same hS.out.isMap (by trivial)] at hat; injection hat with hat; injection hat with _ hat; exact hat.symm); subst hcE2; clear hat hwc) | (at_builtin; refine append_one (w0 := w1) (w.heap.size + 1) rfl (.tmp 32) (.tmp 34) 45 9 (.string ByteArray.empty) 1 16 rfl Try.underlying45 HI.out rfl (by decide) (by decide) _ _ _ [.string x] rfl rfl rfl (by simp [Value.oneCell']) HO1.out (Below.refl _ _) (Nat.le_trans hsz hs1) (by omega) ?_; intro v1 w2 hown3 hb3 hs3; have HO3 := Lib.hid hown3; have HB3 := Lib.hid hb3; clear hown3 hb3))
        go_roundw
        case rel => exact ⟨j + 1, _, _, by omega, by go_num, Lib.hid (by rw [HT.out]; exact hS.out.fresh x hin 1 (by rw [h0]; rfl) HM1.out HG1.out HO3.out HB3.out)⟩
        case measure => simp [intOf]; omega
    · obtain rfl : j = l0.length := by omega
      have HS := hS
      clear hS hlt
      obtain ⟨wo, rfl⟩ : ∃ wo : World, wo = wr := ⟨_, rfl⟩
      go_wp2
      rw [rounds_succ]
      go_wp2
      go_loopw [6, 20] (fun v i wr => ∃ (j : Nat) (out : List ByteArray) (D : DataW Nat), j ≤ l1.length ∧ i = .int .i64 j ∧ Hid (JoinState w wr v out ((l0 ++ l1.take (j))) D)) (fun _ i _ => l1.length - (intOf i).toNat)
      case atStart => exact ⟨0, out, D, by omega, rfl, Lib.hid (by have h := HS.out; rw [List.take_length] at h; rw [List.take_zero, List.append_nil]; exact h)⟩
      case round =>
        obtain ⟨j, out, D, hj, rfl, hS⟩ := hrel
        by_cases hlt : j < l1.length
        · obtain ⟨ad, rfl, hc, hk, ha⟩ := K1.out j hlt
          have hcell : wr.cell? (ad.add j) = some (.string (l1.getD j ByteArray.empty)) := by rw [hS.out.below.cell (p := ad.add j) (by rw [ha]; exact hk), hc]
          have hel : l1.getD j ByteArray.empty = l1[j] := by simp [List.getD_eq_getElem?_getD, hlt]
          have hmem : l1.getD j ByteArray.empty ∈ l1 := by rw [hel]; exact List.getElem_mem hlt
          have htake : ((l0 ++ l1.take (j + 1))) = ((l0 ++ l1.take (j))) ++ [l1.getD j ByteArray.empty] := by rw [hel, List.take_succ_eq_append_getElem hlt]; rw [List.append_assoc]
          have hxs := F1.out _ hmem
          clear hc hk ha hmem hel
          generalize l1.getD j ByteArray.empty = x at hcell htake hxs
          have HT := Lib.hid htake
          have hlen : x.size ≤ maxLen := by unfold maxLen; omega
          have hpl : ((l0 ++ l1.take (j))).length = l0.length + j := by rw [List.length_append]; rw [List.length_take]; omega
          have hsz := hS.out.size
          have hcm := came_le ((l0 ++ l1.take (j))) x
          clear htake
          have hlo := hS.out.len
          by_cases hin : x ∈ ((l0 ++ l1.take (j)))
          · have h0 : came ((l0 ++ l1.take (j))) x ≠ 0 := fun e => (came_zero _ _).1 e hin
            have h1 : (((came ((l0 ++ l1.take (j))) x : Nat) : Int) + 1 == 1) = false := by simp; omega
            go_wp2_with (first | (at_lookup; refine wpList_lookup_own_int _ rfl _ _ 71 rfl 9 3 .i64 keyLaw Try.underlying71 Try.underlying3 (zeroInt _) w.heap.size _ _ rfl hS.out.map _ _ rfl (keyOf_string_mk Try.underlying9 hlen) ?_; intro c hat hwc; have hcE : c = ((came ((l0 ++ l1.take (j))) x : Nat) : Int) := (by have h2 := hS.out.atk x; rw [show klOf x = Lit.string x.data.toList from rfl, hat] at h2; injection h2 with h2; injection h2); subst hcE; clear hat hwc) | (at_mapUpdate; refine wpList_mapUpdate_own _ rfl _ _ _ 71 rfl 9 3 keyLaw Try.underlying71 _ w.heap.size _ _ rfl hS.out.map (by unfold maxLen; omega) _ _ _ rfl rfl (keyOf_string_mk Try.underlying9 hlen) _ [] (plainElem_int Try.underlying3 (WalkArith.wf_i64 (by omega))) ?_; intro w1 hown1 hgrow1; have HM1 := Lib.hid hown1; have HG1 := Lib.hid hgrow1; have hs1 := hgrow1.size; have HO1 := Lib.hid (own_grown hS.out.own hgrow1 (Nat.lt_succ_self _)); clear hown1 hgrow1) | (at_lookup; refine wpList_lookup_own_int _ rfl _ _ 71 rfl 9 3 .i64 keyLaw Try.underlying71 Try.underlying3 (zeroInt _) w.heap.size _ _ rfl HM1.out _ _ rfl (keyOf_string_mk Try.underlying9 hlen) ?_; intro c2 hat hwc; have hcE2 : c2 = ((came ((l0 ++ l1.take (j))) x : Nat) : Int) + 1 := (by rw [atKey_put_same hS.out.isMap (by trivial)] at hat; injection hat with hat; injection hat with _ hat; exact hat.symm); subst hcE2; clear hat hwc))
            go_roundw
            case rel => exact ⟨j + 1, _, _, by omega, by go_num, Lib.hid (by rw [HT.out]; exact hS.out.seen x hin _ rfl HM1.out HG1.out)⟩
            case measure => simp [intOf]; omega
          · have h0 : came ((l0 ++ l1.take (j))) x = 0 := (came_zero _ _).2 hin
            have h1 : (((came ((l0 ++ l1.take (j))) x : Nat) : Int) + 1 == 1) = true := by simp; omega
            go_wp2_with (first | (at_lookup; refine wpList_lookup_own_int _ rfl _ _ 71 rfl 9 3 .i64 keyLaw Try.underlying71 Try.underlying3 (zeroInt _) w.heap.size _ _ rfl hS.out.map _ _ rfl (keyOf_string_mk Try.underlying9 hlen) ?_; intro c hat hwc; have hcE : c = ((came ((l0 ++ l1.take (j))) x : Nat) : Int) := (by have h2 := hS.out.atk x; rw [show klOf x = Lit.string x.data.toList from rfl, hat] at h2; injection h2 with h2; injection h2); subst hcE; clear hat hwc) | (at_mapUpdate; refine wpList_mapUpdate_own _ rfl _ _ _ 71 rfl 9 3 keyLaw Try.underlying71 _ w.heap.size _ _ rfl hS.out.map (by unfold maxLen; omega) _ _ _ rfl rfl (keyOf_string_mk Try.underlying9 hlen) _ [] (plainElem_int Try.underlying3 (WalkArith.wf_i64 (by omega))) ?_; intro w1 hown1 hgrow1; have HM1 := Lib.hid hown1; have HG1 := Lib.hid hgrow1; have hs1 := hgrow1.size; have HO1 := Lib.hid (own_grown hS.out.own hgrow1 (Nat.lt_succ_self _)); clear hown1 hgrow1) | (at_lookup; refine wpList_lookup_own_int _ rfl _ _ 71 rfl 9 3 .i64 keyLaw Try.underlying71 Try.underlying3 (zeroInt _) w.heap.size _ _ rfl HM1.out _ _ rfl (keyOf_string_mk Try.underlying9 hlen) ?_; intro c2 hat hwc; have hcE2 : c2 = 1 := (by rw [atKey_put_same hS.out.isMap (by trivial)] at hat; injection hat with hat; injection hat with _ hat; exact hat.symm); subst hcE2; clear hat hwc) | (at_builtin; refine append_one (w0 := w1) (w.heap.size + 1) rfl (.tmp 32) (.tmp 34) 45 9 (.string ByteArray.empty) 1 16 rfl Try.underlying45 HI.out rfl (by decide) (by decide) _ _ _ [.string x] rfl rfl rfl (by simp [Value.oneCell']) HO1.out (Below.refl _ _) (Nat.le_trans hsz hs1) (by omega) ?_; intro v1 w2 hown3 hb3 hs3; have HO3 := Lib.hid hown3; have HB3 := Lib.hid hb3; clear hown3 hb3))
            go_roundw
            case rel => exact ⟨j + 1, _, _, by omega, by go_num, Lib.hid (by rw [HT.out]; exact hS.out.fresh x hin 1 (by rw [h0]; rfl) HM1.out HG1.out HO3.out HB3.out)⟩
            case measure => simp [intOf]; omega
        · obtain rfl : j = l1.length := by omega
          have HE := Lib.hid (by have h := hS.out; rw [List.take_length] at h; exact h : JoinState w wr _ out (l0 ++ l1) D)
          have hoL : out.length ≤ 4000 := by have h := HE.out.len; rw [List.length_append] at h; omega
          clear hS hlt
          go_wp2
          rw [rounds_succ]
          go_wp2_with ((go_at_call 56); refine (sort_any _ out wr HE.out.own hoL).mono ?_; rintro e w3 ⟨rfl, hs3, hg3⟩; have HSR := Lib.hid hs3; have HG3 := Lib.hid hg3; clear hs3 hg3)
          go_ret
          exact ⟨_, srt out, rfl, by rw [srt_length]; exact own_lower HSR.out (Nat.le_succ _), ⟨(srt_joined HE.out.nodup HE.out.mem).1, fun x => by rw [← List.mem_append]; exact (srt_joined HE.out.nodup HE.out.mem).2 x⟩, HE.out.below.grown HG3.out (by have := HE.out.size; omega) (fun k hk => by have := own_block_le HE.out.own k hk; omega)⟩
def dd : List ByteArray → List ByteArray → List ByteArray
  | acc, [] => acc
  | acc, x :: l => if inB acc x = true then dd acc l else dd (acc ++ [x]) l
theorem dd_nodup : ∀ (l acc : List ByteArray), acc.Nodup → (dd acc l).Nodup
  | [], acc, h => h
  | x :: l, acc, h => by
    unfold dd
    split
    · exact dd_nodup l acc h
    · rename_i hx0
      have hx : x ∉ acc := fun e => hx0 ((inB_iff _ _).2 e)
      refine dd_nodup l _ ?_
      rw [List.nodup_append]
      exact ⟨h, by simp, fun a ha b hb => by rw [List.mem_singleton] at hb; subst hb; intro e; subst e; exact hx ha⟩
theorem dd_mem : ∀ (l acc : List ByteArray) (y : ByteArray), y ∈ dd acc l ↔ y ∈ acc ∨ y ∈ l
  | [], acc, y => by simp [dd]
  | x :: l, acc, y => by
    unfold dd
    split
    · rename_i hx0
      have hx := (inB_iff _ _).1 hx0
      rw [dd_mem l acc y, List.mem_cons]
      constructor
      · rintro (h | h)
        · exact .inl h
        · exact .inr (.inr h)
      · rintro (h | rfl | h)
        · exact .inl h
        · exact .inl hx
        · exact .inr h
    · rw [dd_mem l _ y, List.mem_append, List.mem_singleton, List.mem_cons]
      constructor
      · rintro ((h | h) | h)
        · exact .inl h
        · exact .inr (.inl h)
        · exact .inr (.inr h)
      · rintro (h | h | h)
        · exact .inl (.inl h)
        · exact .inl (.inr h)
        · exact .inr h
def joinB (l0 l1 : List ByteArray) : List ByteArray := srt (dd [] (l0 ++ l1))
theorem joinB_joined (l0 l1 : List ByteArray) : Joined l0 l1 (joinB l0 l1) := by
  have h := srt_joined (ps := l0 ++ l1) (dd_nodup (l0 ++ l1) [] List.nodup_nil) (fun x => by rw [dd_mem]; simp)
  exact ⟨h.1, fun x => by rw [← List.mem_append]; exact h.2 x⟩
instance (l : List ByteArray) : Decidable (big l) := by unfold big; exact inferInstance
end Go.Proofs.Ytnjeeedndnfglaa.Strs
namespace Go.Proofs.Ytnjeeedndnfglaa.X
open Go.RowKit Go.Proofs.Ytnjeeedndnfglaa.Strs Go.Proofs.YtnjeeedndnfglaaW.PrintWords Go.Proofs.YtnjeeedndnfglaaW.PrintLast Go.Proofs.YtnjeeedndnfglaaW.PrintMore
def keys_Join.f (l0 : List ByteArray) (l1 : List ByteArray) : Option (List ByteArray) := if big l0 ∧ big l1 then some (joinB l0 l1) else none
theorem keys_Join.calls (A0 : Option Addr) (c0 : Nat) (l0 : List ByteArray) (A1 : Option Addr) (c1 : Nat) (l1 : List ByteArray) (r : List ByteArray) (w : World) (hr0 : Kd.C Kd.string w A0 l0.length l0) (hc0 : l0.length ≤ c0) (hr1 : Kd.C Kd.string w A1 l1.length l1) (hc1 : l1.length ≤ c1) (h : keys_Join.f l0 l1 = some r) :
    Calls Try.prog 43 #[.slice A0 l0.length c0, .slice A1 l1.length c1] w fun e w' => ∃ v0_ : Value, e = .returned (v0_) ∧ Kd.R Kd.string 9 w' w.heap.size (fun _ => True) v0_ r ∧ Below w.heap.size w w' := by
  unfold keys_Join.f at h
  by_cases hb : big l0 ∧ big l1
  · rw [if_pos hb] at h
    obtain rfl := Option.some.inj h
    refine (join_any A0 A1 c0 c1 l0 l1 w hr0 hr1 hb.1 hb.2).mono ?_
    rintro e w' ⟨v, r, rfl, ho, hj, hB⟩
    obtain rfl := hj.unique (joinB_joined l0 l1)
    exact ⟨v, rfl, Kd.R_of_own ho (fun _ _ => trivial), hB⟩
  · rw [if_neg hb] at h; cases h
end Go.Proofs.Ytnjeeedndnfglaa.X
end
section
namespace Go.Proofs.Ytnjeeedndnfglaa.X
open Go.RowKit Go.Proofs.YtnjeeedndnfglaaW.PrintWords Go.Proofs.YtnjeeedndnfglaaW.PrintLast Go.Proofs.YtnjeeedndnfglaaW.PrintMore
attribute [local go_sem] max2_int min2_int max_two min_two max_three min_three max_four min_four   -- for this text's walks alone
set_option linter.unusedVariables false
set_option linter.unusedSimpArgs false
def command_Keys.f (k : Nat) (a0_0 : Int) (a0_1 : Int) (a0_2 : Int) (a0_3 : Int) (a0_4 : Int) (a0_5 : Int) (l0_6 : List (S38)) (l0_7 : List (S40)) (a0_8 : Bool) : Option (List ByteArray) := (command_read.f k a0_0 a0_1 a0_2 a0_3 a0_4 a0_5 l0_6 l0_7 a0_8).bind fun t119 => ((command_written.f k a0_0 a0_1 a0_2 a0_3 a0_4 a0_5 l0_6 l0_7 a0_8).bind fun t122 => ((keys_Join.f t119 t122).bind fun t125 => (some t125)))
set_option maxHeartbeats 40000000 in
set_option maxRecDepth 100000 in
theorem command_Keys.calls (k : Nat) (a0_0 : Int) (a0_1 : Int) (a0_2 : Int) (a0_3 : Int) (a0_4 : Int) (a0_5 : Int) (A0_6 : Option Addr) (c0_6 : Nat) (l0_6 : List (S38)) (A0_7 : Option Addr) (c0_7 : Nat) (l0_7 : List (S40)) (a0_8 : Bool) (r : List ByteArray) (w : World) (hr0_6 : Kd.C k38 w A0_6 l0_6.length l0_6) (hc0_6 : l0_6.length ≤ c0_6) (hr0_7 : Kd.C k40 w A0_7 l0_7.length l0_7) (hc0_7 : l0_7.length ≤ c0_7) (h : command_Keys.f k a0_0 a0_1 a0_2 a0_3 a0_4 a0_5 l0_6 l0_7 a0_8 = some r) :
 Calls Try.prog 24 #[.agg #[.int .i64 a0_0, .int .i64 a0_1, .int .i64 a0_2, .int .i64 a0_3, .int .i64 a0_4, .int .i64 a0_5, .slice A0_6 l0_6.length c0_6, .slice A0_7 l0_7.length c0_7, .bool a0_8]] w fun e w' => ∃ v0_ : Value, e = .returned (v0_) ∧ Kd.R Kd.string 9 w' w.heap.size (fun _ => True) v0_ r ∧ Below w.heap.size w w' := by
 have hu29 := Try.underlying29
 have HR0_6 := Aside0.mk hr0_6
 have HC0_6 := Aside0.mk hc0_6
 clear hr0_6 hc0_6
 have HR0_7 := Aside0.mk hr0_7
 have HC0_7 := Aside0.mk hc0_7
 clear hr0_7 hc0_7
 have HB := Aside0.mk (Below.refl w.heap.size w)
 have H : ((command_read.f k a0_0 a0_1 a0_2 a0_3 a0_4 a0_5 l0_6 l0_7 a0_8).bind fun t119 => ((command_written.f k a0_0 a0_1 a0_2 a0_3 a0_4 a0_5 l0_6 l0_7 a0_8).bind fun t122 => ((keys_Join.f t119 t122).bind fun t125 => (some t125)))) = some r := h
 clear h
 obtain ⟨t119, A2, H⟩ := bs_ H
 obtain ⟨t122, A3, H⟩ := bs_ H
 obtain ⟨t125, A4, H⟩ := bs_ H
 obtain rfl := Option.some.inj H
 go_enter Try.func24, Try.ntmps24
 try go_wp2_with (first | ((with_reducible refine gate_dst (N := 1) rfl ?_); refine bx_ 1 29 #[.int .i64 a0_0, .int .i64 a0_1, .int .i64 a0_2, .int .i64 a0_3, .int .i64 a0_4, .int .i64 a0_5, .slice A0_6 l0_6.length c0_6, .slice A0_7 l0_7.length c0_7, .bool a0_8] ?_; intro gb118 hg w5 hbox hb; have BK118 := Aside0.mk hbox; have GE118 := ge_ HB hg; replace HB := hs_ HB hb; clear hb hbox hg))
 replace BK118 := Aside0.mk (blk_drew BK118.out)
 replace HB := Aside0.mk (below_drew1 HB.out)
 refine start_ (n := 6) (S := fun w' => w'.heap[gb118]? = some (.cells #[.int .i64 a0_0, .int .i64 a0_1, .int .i64 a0_2, .int .i64 a0_3, .int .i64 a0_4, .int .i64 a0_5, .slice A0_6 l0_6.length c0_6, .slice A0_7 l0_7.length c0_7, .bool a0_8] 29 (0, 0))) (ds := []) #[false, false, false, false, false, false] (by kernel_rfl) rfl rfl BK118.out (fun hHeld => ?_)
 generalize w5.drew = w6 at BK118 HB hHeld ⊢
 refine take_ (i := 0) (N := some 3) (v := ?_) (a' := ?_) (tf_ 1 5) rfl rfl (by kernel_rfl) (fun _ _ _ h => h) (Or.inl ⟨by rfl, ?_⟩) hHeld ?_ ?_
 rotate_left
 · rintro w' s0
   first | (refine blk_yield2 (T := 29) s0 ?_ ⟨_, Try.underlying29, rfl⟩ ?_; exact ⟨rfl, rfl⟩; kernel_rfl) | (refine blk9_ s0 fun _ _ _ _ _ _ _ _ _ _ _ _ _ _ _ _ _ _ => ?_; go_simp; with_reducible rfl)
 rotate_left
 · simp only [Act.put, List.setIfInBounds_toArray, List.set_cons_zero, List.set_cons_succ, i64_w, i32_w]
   rfl
 refine take_ (i := 2) (N := some 5) (v := ?_) (a' := ?_) #[true, false, true, false, false, false] rfl rfl (by kernel_rfl) (fun _ _ _ h => h) (Or.inl ⟨by rfl, ?_⟩) hHeld ?_ ?_
 rotate_left
 · rintro w' s0
   first | (refine blk_yield2 (T := 29) s0 ?_ ⟨_, Try.underlying29, rfl⟩ ?_; exact ⟨rfl, rfl⟩; kernel_rfl) | (refine blk9_ s0 fun _ _ _ _ _ _ _ _ _ _ _ _ _ _ _ _ _ _ => ?_; go_simp; with_reducible rfl)
 rotate_left
 · simp only [Act.put, List.setIfInBounds_toArray, List.set_cons_zero, List.set_cons_succ, i64_w, i32_w]
   rfl
 refine one_ (i := 1) (N := some 4) (tf_ 3 3) rfl rfl (by kernel_rfl) (by decide) (fun K hK => ?_)
 refine goes_ Try.func32 (by kernel_rfl) rfl #[.agg #[.int .i64 a0_0, .int .i64 a0_1, .int .i64 a0_2, .int .i64 a0_3, .int .i64 a0_4, .int .i64 a0_5, .slice A0_6 l0_6.length c0_6, .slice A0_7 l0_7.length c0_7, .bool a0_8]] (by rfl) rfl rfl (by (try simp only [List.map_toArray, List.map_cons, List.map_nil]); first | done | rfl | (simp only [List.length_drop, List.length_take]; rfl)) ?_
 with_reducible refine (command_read.calls k a0_0 a0_1 a0_2 a0_3 a0_4 a0_5 _ _ l0_6 _ _ l0_7 a0_8 t119 _ ?side1 ?side2 ?side3 ?side4 A2.out).mono ?_
 (case side1 => exact kc_ (Kd.C_below HR0_6.out HB.out))
 (case side2 => exact HC0_6.out)
 (case side3 => exact kc_ (Kd.C_below HR0_7.out HB.out))
 (case side4 => exact HC0_7.out)
 rintro e w7 ⟨v120, rfl, ho0, hb⟩
 refine ⟨_, rfl, ?_⟩
 have HO121 := Aside0.mk (Kd.R_lower ho0 (below_size lbt_))
 replace BK118 := bb_ BK118 hb
 replace HB := hs_ HB hb
 (try clear hb)
 (try clear hb2)
 (try clear hk)
 (try clear hi)
 (try clear ho0)
 refine hK.out _ _ BK118.out (fun hHeld => ?_)
 clear hK K
 refine nr_ 4 ?_
 refine one_ (i := 3) (N := some 6) (tf_ 4 2) rfl rfl (by kernel_rfl) (by decide) (fun K hK => ?_)
 refine goes_ Try.func33 (by kernel_rfl) rfl #[.agg #[.int .i64 a0_0, .int .i64 a0_1, .int .i64 a0_2, .int .i64 a0_3, .int .i64 a0_4, .int .i64 a0_5, .slice A0_6 l0_6.length c0_6, .slice A0_7 l0_7.length c0_7, .bool a0_8]] (by rfl) rfl rfl (by (try simp only [List.map_toArray, List.map_cons, List.map_nil]); first | done | rfl | (simp only [List.length_drop, List.length_take]; rfl)) ?_
 with_reducible refine (command_written.calls k a0_0 a0_1 a0_2 a0_3 a0_4 a0_5 _ _ l0_6 _ _ l0_7 a0_8 t122 _ ?side1 ?side2 ?side3 ?side4 A3.out).mono ?_
 (case side1 => exact kc_ (Kd.C_below HR0_6.out HB.out))
 (case side2 => exact HC0_6.out)
 (case side3 => exact kc_ (Kd.C_below HR0_7.out HB.out))
 (case side4 => exact HC0_7.out)
 rintro e w8 ⟨v123, rfl, ho0, hb⟩
 refine ⟨_, rfl, ?_⟩
 have HO124 := Aside0.mk (Kd.R_lower (Kd.R_new' ho0 (Kd.R_lt (kr_ HO121.out))) (below_size lbt_))
 replace HO121 := Aside0.mk (Kd.R_elder' (kr_ HO121.out) (Kd.R_base ho0) hb)
 replace BK118 := bb_ BK118 hb
 replace HB := hs_ HB hb
 (try clear hb)
 (try clear hb2)
 (try clear hk)
 (try clear hi)
 (try clear ho0)
 obtain ⟨Ao9, co9, eo9⟩ := Kd.R_slice HO121.out
 (first | subst eo9 | (injection eo9 with f1_ f2_ f3_; have f4_ := f1_.symm; have f5_ := f3_.symm; clear f1_ f2_ f3_; subst f4_; subst f5_))
 obtain ⟨Ao10, co10, eo10⟩ := Kd.R_slice HO124.out
 (first | subst eo10 | (injection eo10 with f1_ f2_ f3_; have f4_ := f1_.symm; have f5_ := f3_.symm; clear f1_ f2_ f3_; subst f4_; subst f5_))
 refine hK.out _ _ BK118.out (fun hHeld => ?_)
 clear hK K
 refine nr_ 6 ?_
 refine one_ (i := 4) (N := some 7) (tf_ 5 1) rfl rfl (by kernel_rfl) (by decide) (fun K hK => ?_)
 refine goes_ Try.func43 (by kernel_rfl) rfl #[.slice Ao9 t119.length co9, .slice Ao10 t122.length co10] (by rfl) rfl rfl (by (try simp only [List.map_toArray, List.map_cons, List.map_nil]); first | done | rfl | (simp only [List.length_drop, List.length_take]; rfl)) ?_
 with_reducible refine (keys_Join.calls _ _ t119 _ _ t122 t125 _ ?side1 ?side2 ?side3 ?side4 A4.out).mono ?_
 (case side1 => repeat (first | exact (Kd.R_reads' HO121.out).2.2 | (with_reducible refine Kd.C_alloc ?_ _) | (with_reducible refine Kd.C_drewN ?_ _) | (with_reducible refine Kd.C_drew ?_)))
 (case side2 => exact (Kd.R_reads' HO121.out).2.1)
 (case side3 => repeat (first | exact (Kd.R_reads' HO124.out).2.2 | (with_reducible refine Kd.C_alloc ?_ _) | (with_reducible refine Kd.C_drewN ?_ _) | (with_reducible refine Kd.C_drew ?_)))
 (case side4 => exact (Kd.R_reads' HO124.out).2.1)
 rintro e w11 ⟨v126, rfl, ho0, hb⟩
 refine ⟨_, rfl, ?_⟩
 have HO127 := Aside0.mk (Kd.R_lower (Kd.R_new' (Kd.R_new' ho0 (Kd.R_lt (kr_ HO121.out))) (Kd.R_lt (kr_ HO124.out))) (below_size lbt_))
 replace HO121 := Aside0.mk (Kd.R_elder' (kr_ HO121.out) (Kd.R_base ho0) hb)
 replace HO124 := Aside0.mk (Kd.R_elder' (kr_ HO124.out) (Kd.R_base ho0) hb)
 replace BK118 := bb_ BK118 hb
 replace HB := hs_ HB hb
 (try clear hb)
 (try clear hb2)
 (try clear hk)
 (try clear hi)
 (try clear ho0)
 refine hK.out _ _ BK118.out (fun hHeld => ?_)
 clear hK K
 refine nr_ 7 ?_
 refine pure_ (i := 5) (N := some 2) (v := ?_) (a' := ?_) (tf_ 6 0) rfl rfl (by kernel_rfl) (fun _ _ _ h => h) (Or.inl ⟨by rfl, ?_⟩) ?_ ?_
 rotate_left
 · intro w'
   go_simp
   with_reducible rfl
 rotate_left
 · simp only [Act.put, List.setIfInBounds_toArray, List.set_cons_zero, List.set_cons_succ, i64_w, i32_w]
   rfl
 refine done_ (by kernel_rfl) ?_
 try go_wp2
 go_ret
 exact ⟨_, by first | rfl | (simp [errW_none, errW_some] <;> rfl) | (simp [*, errW_none, errW_some] <;> rfl), by (with_reducible repeat (first | apply Kd.R_alloc | apply Kd.R_drewN | apply Kd.R_drew)); exact Kd.R_mono HO127.out (fun _ hk => trivial), by repeat (first | (with_reducible first | exact HB.out | apply below_alloc | apply pw_below_drewN | apply below_drew1 | refine below_set ?_ GE118.out) | exact HB.out)⟩
end Go.Proofs.Ytnjeeedndnfglaa.X
end
section
namespace Go.Proofs.Ytnjeeedndnfglaa.X
open Go.RowKit Go.Proofs.YtnjeeedndnfglaaW.PrintWords Go.Proofs.YtnjeeedndnfglaaW.PrintLast Go.Proofs.YtnjeeedndnfglaaW.PrintMore
attribute [local go_sem] max2_int min2_int max_two min_two max_three min_three max_four min_four   -- for this text's walks alone
set_option linter.unusedVariables false
set_option linter.unusedSimpArgs false

theorem eqA23 (d : Nat) (w : World) (x0 y0 : Int) (x1 y1 : Int) :
    (Op.equalIn (d + 2) 23 (.agg #[.int .i64 x0, .int .i64 x1]) (.agg #[.int .i64 y0, .int .i64 y1])).run Try.prog w = .ok (x0 == y0 && (x1 == y1)) w := by
  refine eqA_of Try.underlying23 (by kernel_rfl) ?_
  refine eqf_cons (by rfl) (by go_simp; rfl) (by go_simp; rfl) (by go_simp) ?_
  exact eqf_last (by rfl) (by go_simp; rfl) (by go_simp; rfl) (by go_simp)
end Go.Proofs.Ytnjeeedndnfglaa.X
end
section
namespace Go.Proofs.Ytnjeeedndnfglaa.Strs
open Go.RowKit Go.Proofs.YtnjeeedndnfglaaW.PrintWords Go.Proofs.YtnjeeedndnfglaaW.PrintLast Go.Proofs.YtnjeeedndnfglaaW.PrintMore Go.Proofs.Ytnjeeedndnfglaa.X
set_option linter.unusedSimpArgs false
set_option linter.unusedVariables false
theorem addr_plain {w : World} {ad : Addr} {v : Value} (h : w.cell? (ad.add 0) = some v) : ∃ b o, ad = ⟨b, o, none⟩ := by
  obtain ⟨b, o, s⟩ := ad
  cases s with
  | none => exact ⟨b, o, rfl⟩
  | some x =>
    exfalso
    unfold Addr.add at h
    rw [if_pos rfl] at h
    simp only [World.cell?] at h
    split at h <;> simp at h
theorem str_cells {w : World} {A : Option Addr} {l : List ByteArray} (h : Kd.C Kd.string w A l.length l) (hl : 0 < l.length) : ∃ b o, A = some ⟨b, o, none⟩ ∧ ∀ j, j < l.length → w.cell? ⟨b, o + j, none⟩ = some (.string (l.getD j ByteArray.empty)) := by
  obtain ⟨ad, rfl, hc⟩ := h.2.2 hl
  have hcell : ∀ j, j < l.length → w.cell? (ad.add j) = some (.string (l.getD j ByteArray.empty)) := by
    intro j hj
    obtain ⟨c, hcl, hk, hcc⟩ := hc j _ (List.getElem?_eq_getElem hj)
    have e : c = [.string (l.getD j ByteArray.empty)] := by
      have : c = [Value.string l[j]] := hk
      rw [this]; simp [List.getD_eq_getElem?_getD, hj]
    subst e
    have h3 := hcc 0 _ rfl
    rwa [show j * Kd.string.sz + 0 = j by simp [Kd.string, Kd.scalar]] at h3
  obtain ⟨b, o, rfl⟩ := addr_plain (hcell 0 hl)
  refine ⟨b, o, rfl, fun j hj => ?_⟩
  have h1 := hcell j hj
  have ha : (⟨b, o, none⟩ : Addr).add j = ⟨b, o + j, none⟩ := by unfold Addr.add; split <;> simp_all
  rwa [ha] at h1
theorem contains_inB (l : List ByteArray) (x : ByteArray) : Lib.containsS l x = inB l x := by
  rw [Bool.eq_iff_iff, Lib.containsS_iff, inB_iff]
set_option maxHeartbeats 1000000 in
theorem contains_any (A : Option Addr) (c : Nat) (l : List ByteArray) (x : ByteArray) (w : World) (hr : Kd.C Kd.string w A l.length l) :
    Calls Try.prog 48 #[.slice A l.length c, .string x] w fun e w' => e = .returned (.bool (inB l x)) ∧ w' = w := by
  by_cases hl : 0 < l.length
  · obtain ⟨b, o, rfl, hc⟩ := str_cells hr hl
    have h := Try.slices_Contains_string b o l.length c l x w (Nat.le_refl _) hr.2.1 hc
    rw [List.take_length, contains_inB] at h
    exact h
  · have h0 : l = [] := List.eq_nil_of_length_eq_zero (by omega)
    subst h0
    exact Try.slices_Contains_string_empty A c x w
set_option maxHeartbeats 1000000 in
theorem meet1_any (k : ByteArray) (g : Nat) (A : Option Addr) (c : Nat) (l : List ByteArray) (w : World) (hg : w.cell? ⟨g, 0, none⟩ = some (.slice A l.length c)) (hr : Kd.C Kd.string w A l.length l) (x : Bool) (hx : x = inB l k) :
    Calls Try.prog 47 #[.string k, .pointer (some ⟨g, 0, none⟩)] w fun e w' => e = .returned (.bool x) ∧ w = w' := by
  have HX := Lib.hid hx
  have HR := Lib.hid hr
  clear hx hr
  go_enter Try.func47, Try.ntmps47
  go_wp2_with (go_at_call 48; refine (contains_any _ _ _ _ _ HR.out).mono ?_; rintro e w' ⟨rfl, rfl⟩)
  go_ret
  exact ⟨by rw [HX.out]; rfl, rfl⟩
def meetB (l m : List ByteArray) : Bool := l.any (fun x => inB m x)
def AtOrNone (b : Bool) (w : World) (e : Ending) (w' : World) : Prop := ∃ n : Int, e = .returned (.int .i64 n) ∧ decide (0 ≤ n) = b ∧ -1 ≤ n ∧ n ≤ 9223372036854775807 ∧ w = w'
set_option maxRecDepth 100000 in
set_option maxHeartbeats 2000000 in
theorem indexFunc_any (A0 : Option Addr) (c0 : Nat) (l0 : List ByteArray) (g : Nat) (A : Option Addr) (c : Nat) (l : List ByteArray) (w : World) (hr0 : Kd.C Kd.string w A0 l0.length l0) (hg : w.cell? ⟨g, 0, none⟩ = some (.slice A l.length c)) (hr : Kd.C Kd.string w A l.length l) :
    Calls Try.prog 57 #[.slice A0 l0.length c0, .func (.func 47) #[] #[.pointer (some ⟨g, 0, none⟩)]] w (AtOrNone (meetB l0 l) w) := by
  have HR := Lib.hid hr
  have HR0 := Lib.hid hr0
  have hm := hr0.2.1
  have HG := Lib.hid hg
  clear hr hr0 hg
  go_enter Try.func57, Try.ntmps57
  go_wp2
  go_loopw [8] (fun i wr => ∃ j : Nat, j ≤ l0.length ∧ i = .int .i64 j ∧ Hid (meetB (l0.take j) l = false) ∧ Hid (w = wr)) (fun i _ => l0.length - (intOf i).toNat)
  case atStart => exact ⟨0, by omega, rfl, Lib.hid rfl, Lib.hid rfl⟩
  case round =>
    obtain ⟨j, hj, rfl, hS, hw⟩ := hrel
    obtain rfl := hw.out
    clear hw
    by_cases hlt : j < l0.length
    · obtain ⟨b, o, rfl, hc⟩ := str_cells HR0.out (by omega)
      have hcell := hc j hlt
      have hel : l0.getD j ByteArray.empty = l0[j] := by simp [List.getD_eq_getElem?_getD, hlt]
      have htake : l0.take (j + 1) = l0.take j ++ [l0.getD j ByteArray.empty] := by rw [hel, List.take_succ_eq_append_getElem hlt]
      have hmem : l0.getD j ByteArray.empty ∈ l0 := by rw [hel]; exact List.getElem_mem hlt
      have HT := Lib.hid htake
      have HM := Lib.hid hmem
      clear hc hel htake hmem
      generalize l0.getD j ByteArray.empty = x at hcell HT HM
      cases hb : inB l x with
      | true =>
        have HB := Lib.hid hb
        clear hb
        go_wp2_with (go_at_call 47; refine (meet1_any _ g A c l _ HG.out HR.out true (by rw [HB.out])).mono ?_; rintro e w' ⟨rfl, rfl⟩)
        go_ret
        exact ⟨j, rfl, by unfold meetB; rw [List.any_eq_true.2 ⟨x, HM.out, HB.out⟩]; simp, by omega, by omega, rfl⟩
      | false =>
        have HB := Lib.hid hb
        clear hb
        go_wp2_with (go_at_call 47; refine (meet1_any _ g A c l _ HG.out HR.out false (by rw [HB.out])).mono ?_; rintro e w' ⟨rfl, rfl⟩)
        go_roundw
        case rel => exact ⟨j + 1, by omega, by go_num, Lib.hid (by have h := hS.out; unfold meetB at h ⊢; rw [HT.out, List.any_append, h, List.any_cons, HB.out]; rfl), by first | exact Lib.hid rfl | exact Lib.hid trivial⟩
        case measure => simp [intOf]; omega
    · go_wp2
      go_ret
      obtain rfl : j = l0.length := by omega
      exact ⟨-1, rfl, by have h := hS.out; rw [List.take_length] at h; rw [h]; simp, by omega, by omega, rfl⟩
set_option maxHeartbeats 1000000 in
theorem containsFunc_any (A0 : Option Addr) (c0 : Nat) (l0 : List ByteArray) (g : Nat) (A : Option Addr) (c : Nat) (l : List ByteArray) (w : World) (hr0 : Kd.C Kd.string w A0 l0.length l0) (hg : w.cell? ⟨g, 0, none⟩ = some (.slice A l.length c)) (hr : Kd.C Kd.string w A l.length l) :
    Calls Try.prog 46 #[.slice A0 l0.length c0, .func (.func 47) #[] #[.pointer (some ⟨g, 0, none⟩)]] w fun e w' => e = .returned (.bool (meetB l0 l)) ∧ w = w' := by
  have HR := Lib.hid hr
  have HR0 := Lib.hid hr0
  have HG := Lib.hid hg
  clear hr hr0 hg
  go_enter Try.func46, Try.ntmps46
  go_wp2_with (go_at_call 57; refine (indexFunc_any A0 c0 l0 g A c l _ HR0.out HG.out HR.out).mono ?_; rintro e w' ⟨n, rfl, hn, hn1, hn2, rfl⟩; have HN := Lib.hid hn; clear hn)
  go_ret
  exact ⟨by rw [← HN.out]; rfl, rfl⟩
end Go.Proofs.Ytnjeeedndnfglaa.Strs
namespace Go.Proofs.Ytnjeeedndnfglaa.X
open Go.RowKit Go.Proofs.Ytnjeeedndnfglaa.Strs Go.Proofs.YtnjeeedndnfglaaW.PrintWords Go.Proofs.YtnjeeedndnfglaaW.PrintLast Go.Proofs.YtnjeeedndnfglaaW.PrintMore
set_option linter.unusedVariables false
def keys_Meet.f (l0 : List ByteArray) (l1 : List ByteArray) : Option Bool := some (meetB l0 l1)
set_option maxHeartbeats 1000000 in
theorem keys_Meet.calls (A0 : Option Addr) (c0 : Nat) (l0 : List ByteArray) (A1 : Option Addr) (c1 : Nat) (l1 : List ByteArray) (r : Bool) (w : World) (hr0 : Kd.C Kd.string w A0 l0.length l0) (hc0 : l0.length ≤ c0) (hr1 : Kd.C Kd.string w A1 l1.length l1) (hc1 : l1.length ≤ c1) (h : keys_Meet.f l0 l1 = some r) :
    Calls Try.prog 26 #[.slice A0 l0.length c0, .slice A1 l1.length c1] w fun e w' => e = .returned (.bool r) ∧ Below w.heap.size w w' := by
  have HX := Lib.hid (Option.some.inj h)
  have hb0 := below_alloc (Below.refl w.heap.size w) (.cells #[.slice A1 l1.length c1] 45)
  have HR0 := Lib.hid (Kd.C_below hr0 hb0)
  have HR1 := Lib.hid (Kd.C_below hr1 hb0)
  clear h hr0 hr1 hc0 hc1
  go_enter Try.func26, Try.ntmps26
  go_wp2_with (go_at_call 46; refine (containsFunc_any A0 c0 l0 w.heap.size A1 c1 l1 _ HR0.out ?_ HR1.out).mono ?_; (exact World.cell?_alloc_at _ _ _ _ rfl); rintro e w' ⟨rfl, rfl⟩)
  go_ret
  exact ⟨by rw [HX.out]; rfl, hb0⟩
end Go.Proofs.Ytnjeeedndnfglaa.X
end
section
namespace Go.Proofs.Ytnjeeedndnfglaa.X
open Go.RowKit Go.Proofs.YtnjeeedndnfglaaW.PrintWords Go.Proofs.YtnjeeedndnfglaaW.PrintLast Go.Proofs.YtnjeeedndnfglaaW.PrintMore
attribute [local go_sem] max2_int min2_int max_two min_two max_three min_three max_four min_four   -- for this text's walks alone
set_option linter.unusedVariables false
set_option linter.unusedSimpArgs false
attribute [local go_sem high] eqA23
def command_Interfere.j0 : Nat → Bool → Int → Int → Int → Int → Int → Int → List (S38) → List (S40) → Bool → Int → Int → Int → Int → Int → Int → List (S38) → List (S40) → Bool → Option (Bool)
 | 0, _, _, _, _, _, _, _, _, _, _, _, _, _, _, _, _, _, _, _ => none
 | k + 1, x12, x129000, x129001, x129002, x129003, x129004, x129005, x129006, x129007, x129008, x130000, x130001, x130002, x130003, x130004, x130005, x130006, x130007, x130008 => if x12 = true then (some false) else (if (x129001 == x130001 && (x129002 == x130002)) = true then (some true) else ((command_Keys.f k x129000 x129001 x129002 x129003 x129004 x129005 x129006 x129007 x129008).bind fun t130 => ((command_Keys.f k x130000 x130001 x130002 x130003 x130004 x130005 x130006 x130007 x130008).bind fun t133 => ((keys_Meet.f t130 t133).bind fun t136 => (some t136)))))
def command_Interfere.f (k : Nat) (a0_0 : Int) (a0_1 : Int) (a0_2 : Int) (a0_3 : Int) (a0_4 : Int) (a0_5 : Int) (l0_6 : List (S38)) (l0_7 : List (S40)) (a0_8 : Bool) (a1_0 : Int) (a1_1 : Int) (a1_2 : Int) (a1_3 : Int) (a1_4 : Int) (a1_5 : Int) (l1_6 : List (S38)) (l1_7 : List (S40)) (a1_8 : Bool) : Option (Bool) := if a0_0 = 0 then (command_Interfere.j0 k true a0_0 a0_1 a0_2 a0_3 a0_4 a0_5 l0_6 l0_7 a0_8 a1_0 a1_1 a1_2 a1_3 a1_4 a1_5 l1_6 l1_7 a1_8) else (command_Interfere.j0 k (a1_0 == 0) a0_0 a0_1 a0_2 a0_3 a0_4 a0_5 l0_6 l0_7 a0_8 a1_0 a1_1 a1_2 a1_3 a1_4 a1_5 l1_6 l1_7 a1_8)
def command_Interfere.T3 : Bool × List (List Nat × List Nat) := (true, [([], []), ([0], [0]), ([], []), ([2], [2]), ([1, 3], [1, 3]), ([4], [4]), ([5], [5]), ([6, 5, 5], [5, 6]), ([5], [5]), ([8, 7, 5], [5, 8]), ([7, 9, 9, 5], [5, 7, 9]), ([5, 10], [5, 10]), ([11, 10, 0, 1, 2, 3, 4, 5, 6, 7, 8, 9, 10, 11], [11])])
def command_Interfere.B3 : List Nat := [0, 1, 0, 4, 15, 31, 63, 127, 63, 511, 1023, 2047, 4095]
theorem command_Interfere.tab3 : rtab .any (opsOf Try.f13 3) = command_Interfere.T3 := by kernel_rfl
theorem command_Interfere.bits3 : waitsOk command_Interfere.T3.2 command_Interfere.B3 = true := by kernel_rfl
set_option maxHeartbeats 40000000 in
set_option maxRecDepth 100000 in
theorem command_Interfere.calls (k : Nat) (a0_0 : Int) (a0_1 : Int) (a0_2 : Int) (a0_3 : Int) (a0_4 : Int) (a0_5 : Int) (A0_6 : Option Addr) (c0_6 : Nat) (l0_6 : List (S38)) (A0_7 : Option Addr) (c0_7 : Nat) (l0_7 : List (S40)) (a0_8 : Bool) (a1_0 : Int) (a1_1 : Int) (a1_2 : Int) (a1_3 : Int) (a1_4 : Int) (a1_5 : Int) (A1_6 : Option Addr) (c1_6 : Nat) (l1_6 : List (S38)) (A1_7 : Option Addr) (c1_7 : Nat) (l1_7 : List (S40)) (a1_8 : Bool) (r : Bool) (w : World) (hr0_6 : Kd.C k38 w A0_6 l0_6.length l0_6) (hc0_6 : l0_6.length ≤ c0_6) (hr0_7 : Kd.C k40 w A0_7 l0_7.length l0_7) (hc0_7 : l0_7.length ≤ c0_7) (hr1_6 : Kd.C k38 w A1_6 l1_6.length l1_6) (hc1_6 : l1_6.length ≤ c1_6) (hr1_7 : Kd.C k40 w A1_7 l1_7.length l1_7) (hc1_7 : l1_7.length ≤ c1_7) (h : command_Interfere.f k a0_0 a0_1 a0_2 a0_3 a0_4 a0_5 l0_6 l0_7 a0_8 a1_0 a1_1 a1_2 a1_3 a1_4 a1_5 l1_6 l1_7 a1_8 = some r) :
 Calls Try.prog 13 #[.agg #[.int .i64 a0_0, .int .i64 a0_1, .int .i64 a0_2, .int .i64 a0_3, .int .i64 a0_4, .int .i64 a0_5, .slice A0_6 l0_6.length c0_6, .slice A0_7 l0_7.length c0_7, .bool a0_8], .agg #[.int .i64 a1_0, .int .i64 a1_1, .int .i64 a1_2, .int .i64 a1_3, .int .i64 a1_4, .int .i64 a1_5, .slice A1_6 l1_6.length c1_6, .slice A1_7 l1_7.length c1_7, .bool a1_8]] w fun e w' => e = .returned (.bool r) ∧ Below w.heap.size w w' := by
 have hu29 := Try.underlying29
 have hu23 := Try.underlying23
 have HR0_6 := Aside0.mk hr0_6
 have HC0_6 := Aside0.mk hc0_6
 clear hr0_6 hc0_6
 have HR0_7 := Aside0.mk hr0_7
 have HC0_7 := Aside0.mk hc0_7
 clear hr0_7 hc0_7
 have HR1_6 := Aside0.mk hr1_6
 have HC1_6 := Aside0.mk hc1_6
 clear hr1_6 hc1_6
 have HR1_7 := Aside0.mk hr1_7
 have HC1_7 := Aside0.mk hc1_7
 clear hr1_7 hc1_7
 have HB := Aside0.mk (Below.refl w.heap.size w)
 have H : (if a0_0 = 0 then (command_Interfere.j0 k true a0_0 a0_1 a0_2 a0_3 a0_4 a0_5 l0_6 l0_7 a0_8 a1_0 a1_1 a1_2 a1_3 a1_4 a1_5 l1_6 l1_7 a1_8) else (command_Interfere.j0 k (a1_0 == 0) a0_0 a0_1 a0_2 a0_3 a0_4 a0_5 l0_6 l0_7 a0_8 a1_0 a1_1 a1_2 a1_3 a1_4 a1_5 l1_6 l1_7 a1_8)) = some r := h
 clear h
 have HC3 := Aside0.mk H
 clear H
 go_enter Try.func13, Try.ntmps13
 go_upto_region 1 with (first | ((with_reducible refine gate_dst (N := 2) rfl ?_); refine bx_ 2 29 #[.int .i64 a0_0, .int .i64 a0_1, .int .i64 a0_2, .int .i64 a0_3, .int .i64 a0_4, .int .i64 a0_5, .slice A0_6 l0_6.length c0_6, .slice A0_7 l0_7.length c0_7, .bool a0_8] ?_; intro gb128 hg w4 hbox hb; have BK128 := Aside0.mk hbox; have GE128 := ge_ HB hg; replace HB := hs_ HB hb; clear hb hbox hg) | ((with_reducible refine gate_dst (N := 3) rfl ?_); refine bx_ 3 29 #[.int .i64 a1_0, .int .i64 a1_1, .int .i64 a1_2, .int .i64 a1_3, .int .i64 a1_4, .int .i64 a1_5, .slice A1_6 l1_6.length c1_6, .slice A1_7 l1_7.length c1_7, .bool a1_8] ?_; intro gb129 hg w5 hbox hb; have BK129 := Aside0.mk hbox; have GE129 := ge_ HB hg; have NB128_129 := na_ hg BK128; replace BK128 := bb_ BK128 hb; replace HB := hs_ HB hb; clear hb hbox hg))
 (try simp only [Act.put, List.setIfInBounds_toArray, List.set_cons_zero, List.set_cons_succ])
 go_cut [12] (fun v12 wc => ∃ (kq : Nat) (x12_2 : Bool), v12 = .bool x12_2 ∧ Aside0 (command_Interfere.j0 kq x12_2 a0_0 a0_1 a0_2 a0_3 a0_4 a0_5 l0_6 l0_7 a0_8 a1_0 a1_1 a1_2 a1_3 a1_4 a1_5 l1_6 l1_7 a1_8 = some r) ∧ Aside0 (kq ≤ k) ∧ Aside0 (wc.heap[gb128]? = some (.cells #[.int .i64 a0_0, .int .i64 a0_1, .int .i64 a0_2, .int .i64 a0_3, .int .i64 a0_4, .int .i64 a0_5, (.slice A0_6 l0_6.length c0_6), (.slice A0_7 l0_7.length c0_7), .bool a0_8] 29 (0, 0))) ∧ Aside0 (wc.heap[gb129]? = some (.cells #[.int .i64 a1_0, .int .i64 a1_1, .int .i64 a1_2, .int .i64 a1_3, .int .i64 a1_4, .int .i64 a1_5, (.slice A1_6 l1_6.length c1_6), (.slice A1_7 l1_7.length c1_7), .bool a1_8] 29 (0, 0))) ∧ Aside0 (Below w.heap.size w wc))
 case first =>
  have H := HC3.out
  clear HC3
  by_cases c6 : a0_0 = 0
  · rw [if_pos c6] at H
    have c6b0 : (a0_0 == 0) = true := beq_iff_eq.mpr c6
    have c6b1 : (a0_0 != 0) = false := bne_eq_false_iff_eq.mpr c6
    clear c6
    (first | rw [c6b0] | (simp only [i64_w, i32_w]; rw [c6b0]) | skip)
    have H' := Aside0.mk H
    clear H
    refine ne2_ NB128_129 fun hnb7 hnc7 => ?_
    refine blk9_ BK128.out fun hcz8_0 hcz8_1 hcz8_2 hcz8_3 hcz8_4 hcz8_5 hcz8_6 hcz8_7 hcz8_8 hfz8_0 hfz8_1 hfz8_2 hfz8_3 hfz8_4 hfz8_5 hfz8_6 hfz8_7 hfz8_8 => ?_
    go_wp2
    go_meet
    case rel => exact ⟨_, (true), sm_, H', ⟨by first | omega | exact Nat.le_refl _⟩, ⟨by (with_reducible repeat (first | refine blk_drewN ?_ _ | refine blk_drew ?_ | refine blk_alloc ?_ _)); exact BK128.out⟩, ⟨by (with_reducible repeat (first | refine blk_drewN ?_ _ | refine blk_drew ?_ | refine blk_alloc ?_ _)); exact BK129.out⟩, ⟨by repeat (first | (with_reducible first | exact HB.out | apply below_alloc | apply pw_below_drewN | apply below_drew1 | refine below_set ?_ GE128.out | refine below_set ?_ GE129.out) | exact HB.out)⟩⟩
  · rw [if_neg c6] at H
    have c6b0 : (a0_0 == 0) = false := beq_eq_false_iff_ne.mpr c6
    have c6b1 : (a0_0 != 0) = true := bne_iff_ne.mpr c6
    (first | rw [c6b0] | (simp only [i64_w, i32_w]; rw [c6b0]) | skip)
    have H' := Aside0.mk H
    clear H
    refine ne2_ NB128_129 fun hnb9 hnc9 => ?_
    refine blk9_ BK128.out fun hcz10_0 hcz10_1 hcz10_2 hcz10_3 hcz10_4 hcz10_5 hcz10_6 hcz10_7 hcz10_8 hfz10_0 hfz10_1 hfz10_2 hfz10_3 hfz10_4 hfz10_5 hfz10_6 hfz10_7 hfz10_8 => ?_
    refine blk9_ BK129.out fun hcz11_0 hcz11_1 hcz11_2 hcz11_3 hcz11_4 hcz11_5 hcz11_6 hcz11_7 hcz11_8 hfz11_0 hfz11_1 hfz11_2 hfz11_3 hfz11_4 hfz11_5 hfz11_6 hfz11_7 hfz11_8 => ?_
    go_wp2
    go_meet
    case rel => exact ⟨_, ((a1_0 == 0)), sm_, H', ⟨by first | omega | exact Nat.le_refl _⟩, ⟨by (with_reducible repeat (first | refine blk_drewN ?_ _ | refine blk_drew ?_ | refine blk_alloc ?_ _)); exact BK128.out⟩, ⟨by (with_reducible repeat (first | refine blk_drewN ?_ _ | refine blk_drew ?_ | refine blk_alloc ?_ _)); exact BK129.out⟩, ⟨by repeat (first | (with_reducible first | exact HB.out | apply below_alloc | apply pw_below_drewN | apply below_drew1 | refine below_set ?_ GE128.out | refine below_set ?_ GE129.out) | exact HB.out)⟩⟩
 case rest =>
  clear HC3
  try clear c1
  try clear p2
  try clear c6
  try clear c6b0
  try clear c6b1
  try clear c7
  try clear c9
  try clear hcz10_0 hcz10_1 hcz10_2 hcz10_3 hcz10_4 hcz10_5 hcz10_6 hcz10_7 hcz10_8
  try clear hcz11_0 hcz11_1 hcz11_2 hcz11_3 hcz11_4 hcz11_5 hcz11_6 hcz11_7 hcz11_8
  try clear hcz8_0 hcz8_1 hcz8_2 hcz8_3 hcz8_4 hcz8_5 hcz8_6 hcz8_7 hcz8_8
  try clear hfz10_0 hfz10_1 hfz10_2 hfz10_3 hfz10_4 hfz10_5 hfz10_6 hfz10_7 hfz10_8
  try clear hfz11_0 hfz11_1 hfz11_2 hfz11_3 hfz11_4 hfz11_5 hfz11_6 hfz11_7 hfz11_8
  try clear hfz8_0 hfz8_1 hfz8_2 hfz8_3 hfz8_4 hfz8_5 hfz8_6 hfz8_7 hfz8_8
  obtain ⟨kq, x12_2, rfl, HA, HJ2, BK128, BK129, HB⟩ := hcut
  cases kq with
  | zero => exact absurd HA.out (by simp [command_Interfere.j0])
  | succ kj2 =>
   have H := HA.out
   clear HA
   simp only [command_Interfere.j0] at H
   by_cases c12 : x12_2 = true
   · subst c12
     rw [if_pos rfl] at H
     obtain rfl := Option.some.inj H
     go_wp2
     go_ret
     exact ⟨by first | rfl | (simp [errW_none, errW_some] <;> rfl) | (simp [*, errW_none, errW_some] <;> rfl), by repeat (first | (with_reducible first | exact HB.out | apply below_alloc | apply pw_below_drewN | apply below_drew1 | refine below_set ?_ GE128.out | refine below_set ?_ GE129.out) | exact HB.out)⟩
   · replace c12 := Bool.eq_false_iff.mpr c12
     subst c12
     rw [if_neg (show ¬ (false = true) by decide)] at H
     by_cases c13 : (a0_1 == a1_1 && (a0_2 == a1_2)) = true
     · rw [if_pos c13] at H
       have c13b0 : (a0_1 == a1_1 && (a0_2 == a1_2)) = true := c13
       (try (have c13b1 : decide (a0_1 = a1_1 && (a0_2 == a1_2)) = true := by simpa using c13))
       (try (have c13b2 : (a0_1 == a1_1 && (a0_2 == a1_2)) = true := by simpa using c13))
       clear c13
       obtain rfl := Option.some.inj H
       try go_wp2
       replace BK128 := Aside0.mk (blk_drew BK128.out)
       replace BK129 := Aside0.mk (blk_drew BK129.out)
       replace HB := Aside0.mk (below_drew1 HB.out)
       refine start_ (n := 13) (S := fun w' => w'.heap[gb128]? = some (.cells #[.int .i64 a0_0, .int .i64 a0_1, .int .i64 a0_2, .int .i64 a0_3, .int .i64 a0_4, .int .i64 a0_5, .slice A0_6 l0_6.length c0_6, .slice A0_7 l0_7.length c0_7, .bool a0_8] 29 (0, 0)) ∧ w'.heap[gb129]? = some (.cells #[.int .i64 a1_0, .int .i64 a1_1, .int .i64 a1_2, .int .i64 a1_3, .int .i64 a1_4, .int .i64 a1_5, .slice A1_6 l1_6.length c1_6, .slice A1_7 l1_7.length c1_7, .bool a1_8] 29 (0, 0))) (ds := []) #[false, false, false, false, false, false, false, false, false, false, false, false, false] (by kernel_rfl) rfl rfl ⟨BK128.out, BK129.out⟩ (fun hHeld => ?_); refine with_tabW command_Interfere.tab3 command_Interfere.bits3 (fun HT_ HW_ => ?_)
       generalize wc.drew = w14 at BK128 BK129 HB hHeld ⊢
       refine pu_ 0 (some 13) (tf_ 1 12) HT_ ?_
       refine pu_ 2 (some 15) #[true, false, true, false, false, false, false, false, false, false, false, false, false] HT_ ?_
       refine tk_ 1 (some 14) (tf_ 3 10) HT_ HW_ hHeld (hy := by
        rintro w' ⟨s0, s9⟩
        first | (refine blk_yield2 (T := 29) s0 ?_ ⟨_, Try.underlying29, rfl⟩ ?_; exact ⟨rfl, rfl⟩; kernel_rfl) | (refine blk_yield2 (T := 29) s9 ?_ ⟨_, Try.underlying29, rfl⟩ ?_; exact ⟨rfl, rfl⟩; kernel_rfl) | (refine blk9_ s0 fun _ _ _ _ _ _ _ _ _ _ _ _ _ _ _ _ _ _ => ?_; refine blk9_ s9 fun _ _ _ _ _ _ _ _ _ _ _ _ _ _ _ _ _ _ => ?_; go_simp; with_reducible rfl)) (h := ?_)
       refine tk_ 3 (some 16) (tf_ 4 9) HT_ HW_ hHeld (hy := by
        rintro w' ⟨s0, s9⟩
        first | (refine blk_yield2 (T := 29) s0 ?_ ⟨_, Try.underlying29, rfl⟩ ?_; exact ⟨rfl, rfl⟩; kernel_rfl) | (refine blk_yield2 (T := 29) s9 ?_ ⟨_, Try.underlying29, rfl⟩ ?_; exact ⟨rfl, rfl⟩; kernel_rfl) | (refine blk9_ s0 fun _ _ _ _ _ _ _ _ _ _ _ _ _ _ _ _ _ _ => ?_; refine blk9_ s9 fun _ _ _ _ _ _ _ _ _ _ _ _ _ _ _ _ _ _ => ?_; go_simp; with_reducible rfl)) (h := ?_)
       refine pu_ 4 (some 17) (tf_ 5 8) HT_ ?_
       refine pu_ 5 (some 18) (tf_ 6 7) HT_ ?_
       refine pure_ (i := 6) (N := some 19) (v := undef) (a' := ?_) (tf_ 7 6) rfl rfl (any_of HT_.out (by kernel_rfl)) (fun _ _ _ h => h) (Or.inr ⟨by rfl, rfl⟩) ?_ ?_
       rotate_left
       · simp only [Act.put, List.setIfInBounds_toArray, List.set_cons_zero, List.set_cons_succ, i64_w, i32_w]
         rfl
       refine pure_ (i := 7) (N := some 20) (v := undef) (a' := ?_) (tf_ 8 5) rfl rfl (any_of HT_.out (by kernel_rfl)) (fun _ _ _ h => h) (Or.inr ⟨by rfl, rfl⟩) ?_ ?_
       rotate_left
       · simp only [Act.put, List.setIfInBounds_toArray, List.set_cons_zero, List.set_cons_succ, i64_w, i32_w]
         rfl
       refine pure_ (i := 8) (N := some 21) (v := undef) (a' := ?_) (tf_ 9 4) rfl rfl (any_of HT_.out (by kernel_rfl)) (fun _ _ _ h => h) (Or.inr ⟨by rfl, rfl⟩) ?_ ?_
       rotate_left
       · simp only [Act.put, List.setIfInBounds_toArray, List.set_cons_zero, List.set_cons_succ, i64_w, i32_w]
         rfl
       refine pure_ (i := 9) (N := some 22) (v := undef) (a' := ?_) (tf_ 10 3) rfl rfl (any_of HT_.out (by kernel_rfl)) (fun _ _ _ h => h) (Or.inr ⟨by rfl, rfl⟩) ?_ ?_
       rotate_left
       · simp only [Act.put, List.setIfInBounds_toArray, List.set_cons_zero, List.set_cons_succ, i64_w, i32_w]
         rfl
       refine pure_ (i := 10) (N := some 23) (v := undef) (a' := ?_) (tf_ 11 2) rfl rfl (any_of HT_.out (by kernel_rfl)) (fun _ _ _ h => h) (Or.inr ⟨by rfl, rfl⟩) ?_ ?_
       rotate_left
       · simp only [Act.put, List.setIfInBounds_toArray, List.set_cons_zero, List.set_cons_succ, i64_w, i32_w]
         rfl
       refine pu_ 11 (some 24) (tf_ 12 1) HT_ ?_
       refine pu_ 12 (some 4) (tf_ 13 0) HT_ ?_
       refine done_ (done_of HT_.out (by kernel_rfl)) ?_
       try go_wp2
       go_ret
       exact ⟨by first | rfl | (simp [errW_none, errW_some] <;> rfl) | (simp [*, errW_none, errW_some] <;> rfl), by repeat (first | (with_reducible first | exact HB.out | apply below_alloc | apply pw_below_drewN | apply below_drew1 | refine below_set ?_ GE128.out | refine below_set ?_ GE129.out) | exact HB.out)⟩
     · rw [if_neg c13] at H
       have c13b0 : (a0_1 == a1_1 && (a0_2 == a1_2)) = false := by simpa using c13
       (try (have c13b1 : decide (a0_1 = a1_1 && (a0_2 == a1_2)) = false := by simpa using c13))
       (try (have c13b2 : (a0_1 == a1_1 && (a0_2 == a1_2)) = false := by simpa using c13))
       (try (have c13b3 : ¬ (a0_1 = a1_1 && (a0_2 == a1_2)) := by simpa using c13))
       clear c13
       obtain ⟨t130, A15, H⟩ := bs_ H
       obtain ⟨t133, A16, H⟩ := bs_ H
       obtain ⟨t136, A17, H⟩ := bs_ H
       obtain rfl := Option.some.inj H
       try go_wp2
       replace BK128 := Aside0.mk (blk_drew BK128.out)
       replace BK129 := Aside0.mk (blk_drew BK129.out)
       replace HB := Aside0.mk (below_drew1 HB.out)
       refine start_ (n := 13) (S := fun w' => w'.heap[gb128]? = some (.cells #[.int .i64 a0_0, .int .i64 a0_1, .int .i64 a0_2, .int .i64 a0_3, .int .i64 a0_4, .int .i64 a0_5, .slice A0_6 l0_6.length c0_6, .slice A0_7 l0_7.length c0_7, .bool a0_8] 29 (0, 0)) ∧ w'.heap[gb129]? = some (.cells #[.int .i64 a1_0, .int .i64 a1_1, .int .i64 a1_2, .int .i64 a1_3, .int .i64 a1_4, .int .i64 a1_5, .slice A1_6 l1_6.length c1_6, .slice A1_7 l1_7.length c1_7, .bool a1_8] 29 (0, 0))) (ds := []) #[false, false, false, false, false, false, false, false, false, false, false, false, false] (by kernel_rfl) rfl rfl ⟨BK128.out, BK129.out⟩ (fun hHeld => ?_); refine with_tabW command_Interfere.tab3 command_Interfere.bits3 (fun HT_ HW_ => ?_)
       generalize wc.drew = w18 at BK128 BK129 HB hHeld ⊢
       refine pu_ 0 (some 13) (tf_ 1 12) HT_ ?_
       refine pu_ 2 (some 15) #[true, false, true, false, false, false, false, false, false, false, false, false, false] HT_ ?_
       refine tk_ 1 (some 14) (tf_ 3 10) HT_ HW_ hHeld (hy := by
        rintro w' ⟨s0, s9⟩
        first | (refine blk_yield2 (T := 29) s0 ?_ ⟨_, Try.underlying29, rfl⟩ ?_; exact ⟨rfl, rfl⟩; kernel_rfl) | (refine blk_yield2 (T := 29) s9 ?_ ⟨_, Try.underlying29, rfl⟩ ?_; exact ⟨rfl, rfl⟩; kernel_rfl) | (refine blk9_ s0 fun _ _ _ _ _ _ _ _ _ _ _ _ _ _ _ _ _ _ => ?_; refine blk9_ s9 fun _ _ _ _ _ _ _ _ _ _ _ _ _ _ _ _ _ _ => ?_; go_simp; with_reducible rfl)) (h := ?_)
       refine tk_ 3 (some 16) (tf_ 4 9) HT_ HW_ hHeld (hy := by
        rintro w' ⟨s0, s9⟩
        first | (refine blk_yield2 (T := 29) s0 ?_ ⟨_, Try.underlying29, rfl⟩ ?_; exact ⟨rfl, rfl⟩; kernel_rfl) | (refine blk_yield2 (T := 29) s9 ?_ ⟨_, Try.underlying29, rfl⟩ ?_; exact ⟨rfl, rfl⟩; kernel_rfl) | (refine blk9_ s0 fun _ _ _ _ _ _ _ _ _ _ _ _ _ _ _ _ _ _ => ?_; refine blk9_ s9 fun _ _ _ _ _ _ _ _ _ _ _ _ _ _ _ _ _ _ => ?_; go_simp; with_reducible rfl)) (h := ?_)
       refine pu_ 4 (some 17) (tf_ 5 8) HT_ ?_
       refine pu_ 5 (some 18) (tf_ 6 7) HT_ ?_
       refine tk_ 6 (some 19) (tf_ 7 6) HT_ HW_ hHeld (hy := by
        rintro w' ⟨s0, s9⟩
        first | (refine blk_yield2 (T := 29) s0 ?_ ⟨_, Try.underlying29, rfl⟩ ?_; exact ⟨rfl, rfl⟩; kernel_rfl) | (refine blk_yield2 (T := 29) s9 ?_ ⟨_, Try.underlying29, rfl⟩ ?_; exact ⟨rfl, rfl⟩; kernel_rfl) | (refine blk9_ s0 fun _ _ _ _ _ _ _ _ _ _ _ _ _ _ _ _ _ _ => ?_; refine blk9_ s9 fun _ _ _ _ _ _ _ _ _ _ _ _ _ _ _ _ _ _ => ?_; go_simp; with_reducible rfl)) (h := ?_)
       refine tk_ 8 (some 21) #[true, true, true, true, true, true, true, false, true, false, false, false, false] HT_ HW_ hHeld (hy := by
        rintro w' ⟨s0, s9⟩
        first | (refine blk_yield2 (T := 29) s0 ?_ ⟨_, Try.underlying29, rfl⟩ ?_; exact ⟨rfl, rfl⟩; kernel_rfl) | (refine blk_yield2 (T := 29) s9 ?_ ⟨_, Try.underlying29, rfl⟩ ?_; exact ⟨rfl, rfl⟩; kernel_rfl) | (refine blk9_ s0 fun _ _ _ _ _ _ _ _ _ _ _ _ _ _ _ _ _ _ => ?_; refine blk9_ s9 fun _ _ _ _ _ _ _ _ _ _ _ _ _ _ _ _ _ _ => ?_; go_simp; with_reducible rfl)) (h := ?_)
       refine on_ 7 (some 20) (tf_ 9 4) HT_ fun K hK => ?_
       refine goes_ Try.func24 (by kernel_rfl) rfl #[.agg #[.int .i64 a0_0, .int .i64 a0_1, .int .i64 a0_2, .int .i64 a0_3, .int .i64 a0_4, .int .i64 a0_5, .slice A0_6 l0_6.length c0_6, .slice A0_7 l0_7.length c0_7, .bool a0_8]] (by rfl) rfl rfl (by (try simp only [List.map_toArray, List.map_cons, List.map_nil]); first | done | rfl | (simp only [List.length_drop, List.length_take]; rfl)) ?_
       with_reducible refine (command_Keys.calls kj2 a0_0 a0_1 a0_2 a0_3 a0_4 a0_5 _ _ l0_6 _ _ l0_7 a0_8 t130 _ ?side1 ?side2 ?side3 ?side4 A15.out).mono ?_
       (case side1 => exact kc_ (Kd.C_below HR0_6.out HB.out))
       (case side2 => exact HC0_6.out)
       (case side3 => exact kc_ (Kd.C_below HR0_7.out HB.out))
       (case side4 => exact HC0_7.out)
       rintro e w19 ⟨v131, rfl, ho0, hb⟩
       refine ⟨_, rfl, ?_⟩
       have HO132 := Aside0.mk (Kd.R_lower ho0 (below_size lbt_))
       replace BK128 := bb_ BK128 hb
       replace BK129 := bb_ BK129 hb
       replace HB := hs_ HB hb
       (try clear hb)
       (try clear hb2)
       (try clear hk)
       (try clear hi)
       (try clear ho0)
       refine hK.out _ _ ⟨BK128.out, BK129.out⟩ (fun hHeld => ?_)
       clear hK K
       refine nr_ 20 ?_
       refine on_ 9 (some 22) (tf_ 10 3) HT_ fun K hK => ?_
       refine goes_ Try.func24 (by kernel_rfl) rfl #[.agg #[.int .i64 a1_0, .int .i64 a1_1, .int .i64 a1_2, .int .i64 a1_3, .int .i64 a1_4, .int .i64 a1_5, .slice A1_6 l1_6.length c1_6, .slice A1_7 l1_7.length c1_7, .bool a1_8]] (by rfl) rfl rfl (by (try simp only [List.map_toArray, List.map_cons, List.map_nil]); first | done | rfl | (simp only [List.length_drop, List.length_take]; rfl)) ?_
       with_reducible refine (command_Keys.calls kj2 a1_0 a1_1 a1_2 a1_3 a1_4 a1_5 _ _ l1_6 _ _ l1_7 a1_8 t133 _ ?side1 ?side2 ?side3 ?side4 A16.out).mono ?_
       (case side1 => exact kc_ (Kd.C_below HR1_6.out HB.out))
       (case side2 => exact HC1_6.out)
       (case side3 => exact kc_ (Kd.C_below HR1_7.out HB.out))
       (case side4 => exact HC1_7.out)
       rintro e w20 ⟨v134, rfl, ho0, hb⟩
       refine ⟨_, rfl, ?_⟩
       have HO135 := Aside0.mk (Kd.R_lower (Kd.R_new' ho0 (Kd.R_lt (kr_ HO132.out))) (below_size lbt_))
       replace HO132 := Aside0.mk (Kd.R_elder' (kr_ HO132.out) (Kd.R_base ho0) hb)
       replace BK128 := bb_ BK128 hb
       replace BK129 := bb_ BK129 hb
       replace HB := hs_ HB hb
       (try clear hb)
       (try clear hb2)
       (try clear hk)
       (try clear hi)
       (try clear ho0)
       obtain ⟨Ao21, co21, eo21⟩ := Kd.R_slice HO132.out
       (first | subst eo21 | (injection eo21 with f1_ f2_ f3_; have f4_ := f1_.symm; have f5_ := f3_.symm; clear f1_ f2_ f3_; subst f4_; subst f5_))
       obtain ⟨Ao22, co22, eo22⟩ := Kd.R_slice HO135.out
       (first | subst eo22 | (injection eo22 with f1_ f2_ f3_; have f4_ := f1_.symm; have f5_ := f3_.symm; clear f1_ f2_ f3_; subst f4_; subst f5_))
       refine hK.out _ _ ⟨BK128.out, BK129.out⟩ (fun hHeld => ?_)
       clear hK K
       refine nr_ 22 ?_
       refine on_ 10 (some 23) (tf_ 11 2) HT_ fun K hK => ?_
       refine goes_ Try.func26 (by kernel_rfl) rfl #[.slice Ao21 t130.length co21, .slice Ao22 t133.length co22] (by rfl) rfl rfl (by (try simp only [List.map_toArray, List.map_cons, List.map_nil]); first | done | rfl | (simp only [List.length_drop, List.length_take]; rfl)) ?_
       with_reducible refine (keys_Meet.calls _ _ t130 _ _ t133 t136 _ ?side1 ?side2 ?side3 ?side4 A17.out).mono ?_
       (case side1 => repeat (first | exact (Kd.R_reads' HO132.out).2.2 | (with_reducible refine Kd.C_alloc ?_ _) | (with_reducible refine Kd.C_drewN ?_ _) | (with_reducible refine Kd.C_drew ?_)))
       (case side2 => exact (Kd.R_reads' HO132.out).2.1)
       (case side3 => repeat (first | exact (Kd.R_reads' HO135.out).2.2 | (with_reducible refine Kd.C_alloc ?_ _) | (with_reducible refine Kd.C_drewN ?_ _) | (with_reducible refine Kd.C_drew ?_)))
       (case side4 => exact (Kd.R_reads' HO135.out).2.1)
       rintro e w23 ⟨rfl, hb⟩
       refine ⟨_, rfl, ?_⟩
       replace HO132 := rb_ HO132 hb
       replace HO135 := rb_ HO135 hb
       replace BK128 := bb_ BK128 hb
       replace BK129 := bb_ BK129 hb
       replace HB := hs_ HB hb
       (try clear hb)
       (try clear hb2)
       (try clear hk)
       (try clear hi)
       refine hK.out _ _ ⟨BK128.out, BK129.out⟩ (fun hHeld => ?_)
       clear hK K
       refine nr_ 23 ?_
       refine pu_ 11 (some 24) (tf_ 12 1) HT_ ?_
       refine pu_ 12 (some 4) (tf_ 13 0) HT_ ?_
       refine done_ (done_of HT_.out (by kernel_rfl)) ?_
       try go_wp2
       go_ret
       exact ⟨by first | rfl | (simp [errW_none, errW_some] <;> rfl) | (simp [*, errW_none, errW_some] <;> rfl), by repeat (first | (with_reducible first | exact HB.out | apply below_alloc | apply pw_below_drewN | apply below_drew1 | refine below_set ?_ GE128.out | refine below_set ?_ GE129.out) | exact HB.out)⟩
end Go.Proofs.Ytnjeeedndnfglaa.X
end
section
namespace Go.Proofs.Ytnjeeedndnfglaa.X
open Go.RowKit Go.Proofs.YtnjeeedndnfglaaW.PrintWords Go.Proofs.YtnjeeedndnfglaaW.PrintLast Go.Proofs.YtnjeeedndnfglaaW.PrintMore
attribute [local go_sem] max2_int min2_int max_two min_two max_three min_three max_four min_four   -- for this text's walks alone
set_option linter.unusedVariables false
set_option linter.unusedSimpArgs false

theorem eqA25 (d : Nat) (w : World) (x0 y0 : Int) (x1 y1 : Int) :
    (Op.equalIn (d + 2) 25 (.agg #[.int .i64 x0, .int .i64 x1]) (.agg #[.int .i64 y0, .int .i64 y1])).run Try.prog w = .ok (x0 == y0 && (x1 == y1)) w := by
  refine eqA_of Try.underlying25 (by kernel_rfl) ?_
  refine eqf_cons (by rfl) (by go_simp; rfl) (by go_simp; rfl) (by go_simp) ?_
  exact eqf_last (by rfl) (by go_simp; rfl) (by go_simp; rfl) (by go_simp)
end Go.Proofs.Ytnjeeedndnfglaa.X
end
section
namespace Go.Proofs.Ytnjeeedndnfglaa.X
open Go.RowKit Go.Proofs.YtnjeeedndnfglaaW.PrintWords Go.Proofs.YtnjeeedndnfglaaW.PrintLast Go.Proofs.YtnjeeedndnfglaaW.PrintMore
attribute [local go_sem] max2_int min2_int max_two min_two max_three min_three max_four min_four   -- for this text's walks alone
set_option linter.unusedVariables false
set_option linter.unusedSimpArgs false

theorem eqA38 (d : Nat) (w : World) (x0 y0 : ByteArray) (x1 y1 : Int) (x2 y2 : Int) :
    (Op.equalIn (d + 3) 38 (.agg #[.string x0, .int .i64 x1, .int .i64 x2]) (.agg #[.string y0, .int .i64 y1, .int .i64 y2])).run Try.prog w = .ok (x0.toList == y0.toList && ((x1 == y1 && (x2 == y2)))) w := by
  refine eqA_of Try.underlying38 (by kernel_rfl) ?_
  refine eqf_cons (by rfl) (by go_simp; rfl) (by go_simp; rfl) (by go_simp) ?_
  exact eqf_last (by rfl) (by go_simp) (by go_simp) (eqA25 (d + 0) w _ _ _ _)
end Go.Proofs.Ytnjeeedndnfglaa.X
end
section
namespace Go.Proofs.Ytnjeeedndnfglaa.X
open Go.RowKit Go.Proofs.YtnjeeedndnfglaaW.PrintWords Go.Proofs.YtnjeeedndnfglaaW.PrintLast Go.Proofs.YtnjeeedndnfglaaW.PrintMore
attribute [local go_sem] max2_int min2_int max_two min_two max_three min_three max_four min_four   -- for this text's walks alone
set_option linter.unusedVariables false
set_option linter.unusedSimpArgs false
attribute [local go_sem high] eqA38
def api_Read.l0 : Nat → List (S38) → List (S38) → Int → Int → Option (Bool)
 | 0, _, _, _, _ => none
 | k + 1, x0, x1, x12, x13 => if x13 < x12 then (if 0 ≤ x13 then (if x13 < (x0.length : Int) then (if x13 < (x1.length : Int) then (if (!((((rd_T38 x0 x13).f0).toList) == (((rd_T38 x1 x13).f0).toList)) || ((!(((rd_T38 x0 x13).f1.f0) == ((rd_T38 x1 x13).f1.f0)) || (!(((rd_T38 x0 x13).f1.f1) == ((rd_T38 x1 x13).f1.f1)))))) = true then (some false) else (api_Read.l0 k x0 x1 x12 (wrap64 (x13 + 1)))) else (none)) else (none)) else (none)) else (some true)
def api_Read.f (k : Nat) (l0 : List (S38)) (l1 : List (S38)) : Option (Bool) := if (l0.length : Int) = (l1.length : Int) then (api_Read.l0 k l0 l1 (l0.length : Int) 0) else (some false)
set_option maxHeartbeats 40000000 in
set_option maxRecDepth 100000 in
theorem api_Read.calls (k : Nat) (A0 : Option Addr) (c0 : Nat) (l0 : List (S38)) (A1 : Option Addr) (c1 : Nat) (l1 : List (S38)) (r : Bool) (w : World) (hr0 : Kd.C k38 w A0 l0.length l0) (hc0 : l0.length ≤ c0) (hr1 : Kd.C k38 w A1 l1.length l1) (hc1 : l1.length ≤ c1) (h : api_Read.f k l0 l1 = some r) :
 Calls Try.prog 44 #[.slice A0 l0.length c0, .slice A1 l1.length c1] w fun e w' => e = .returned (.bool r) ∧ Drawn0 w w' := by
 have hu38 := Try.underlying38
 have HR0 := Aside0.mk hr0
 have HC0 := Aside0.mk hc0
 clear hr0 hc0
 have HR1 := Aside0.mk hr1
 have HC1 := Aside0.mk hc1
 clear hr1 hc1
 have H : (if (l0.length : Int) = (l1.length : Int) then (api_Read.l0 k l0 l1 (l0.length : Int) 0) else (some false)) = some r := h
 clear h
 by_cases c3 : (l0.length : Int) = (l1.length : Int)
 · rw [if_pos c3] at H
   have c3b0 : ((l0.length : Int) == (l1.length : Int)) = true := beq_iff_eq.mpr c3
   have c3b1 : ((l0.length : Int) != (l1.length : Int)) = false := bne_eq_false_iff_eq.mpr c3
   have c3b2 : (l0.length == l1.length) = true := by first | simpa using c3 | (simp at c3 ⊢; omega)
   clear c3
   have H' := Aside0.mk H
   clear H
   go_enter Try.func44, Try.ntmps44
   go_wp2
   repeat (go_quiet (fail); try go_wp2)
   go_loopg [13] k (fun kq v13 w' => ∃ (x13_1 : Int), v13 = .int .i64 x13_1 ∧ Aside0 (api_Read.l0 kq l0 l1 (l0.length : Int) x13_1 = some r) ∧ Aside0 (kq ≤ k) ∧ Drawn0 w w')
   case atStart => exact ⟨(0), sm_, H', ⟨Nat.le_refl _⟩, by repeat (first | exact Drawn0.refl _ | apply Drawn0.step)⟩
   case round =>
    clear H'
    try clear c1
    try clear p2
    try clear c3
    try clear c3b0
    try clear c3b1
    try clear c3b2
    obtain ⟨x13_1, rfl, HA, HK1, ⟨m1, rfl⟩⟩ := hrel
    cases gk with
    | zero => exact absurd HA.out (by simp [api_Read.l0])
    | succ k1 =>
     have H := HA.out
     clear HA
     simp only [api_Read.l0] at H
     by_cases c4 : x13_1 < (l0.length : Int)
     · rw [if_pos c4] at H
       have c4b0 : decide (x13_1 < (l0.length : Int)) = true := decide_eq_true c4
       clear c4
       by_cases c5 : 0 ≤ x13_1
       · rw [if_pos c5] at H
         have c5b0 : decide (0 ≤ x13_1) = true := decide_eq_true c5
         clear c5
         by_cases c6 : x13_1 < (l0.length : Int)
         · rw [if_pos c6] at H
           have c6b0 : decide (x13_1 < (l0.length : Int)) = true := decide_eq_true c6
           clear c6
           by_cases c7 : x13_1 < (l1.length : Int)
           · rw [if_pos c7] at H
             have c7b0 : decide (x13_1 < (l1.length : Int)) = true := decide_eq_true c7
             clear c7
             by_cases c8 : (!((((rd_T38 l0 x13_1).f0).toList) == (((rd_T38 l1 x13_1).f0).toList)) || ((!(((rd_T38 l0 x13_1).f1.f0) == ((rd_T38 l1 x13_1).f1.f0)) || (!(((rd_T38 l0 x13_1).f1.f1) == ((rd_T38 l1 x13_1).f1.f1)))))) = true
             · rw [if_pos c8] at H
               have c8b0 : (!((((rd_T38 l0 x13_1).f0).toList) == (((rd_T38 l1 x13_1).f0).toList)) || ((!(((rd_T38 l0 x13_1).f1.f0) == ((rd_T38 l1 x13_1).f1.f0)) || (!(((rd_T38 l0 x13_1).f1.f1) == ((rd_T38 l1 x13_1).f1.f1)))))) = true := c8
               clear c8
               obtain rfl := Option.some.inj H
               have p137 : 0 ≤ (x13_1 : Int) := of_decide_eq_true (by first | (with_reducible assumption) | assumption)
               have q137 : x13_1 < (l0.length : Int) := of_decide_eq_true (by first | (with_reducible assumption) | assumption)
               obtain ⟨ad137, e137, hx137_0, hx137_1, hx137_2⟩ := at_T38 HR0.out x13_1 p137 q137
               cases e137
               replace p137 := eq_true p137
               replace q137 := eq_true q137
               have p138 : 0 ≤ (x13_1 : Int) := of_decide_eq_true (by first | (with_reducible assumption) | assumption)
               have q138 : x13_1 < (l1.length : Int) := of_decide_eq_true (by first | (with_reducible assumption) | assumption)
               obtain ⟨ad138, e138, hx138_0, hx138_1, hx138_2⟩ := at_T38 HR1.out x13_1 p138 q138
               cases e138
               replace p138 := eq_true p138
               replace q138 := eq_true q138
               go_wp2
               repeat (go_quiet (fail); try go_wp2)
               go_ret
               exact ⟨by first | rfl | (simp; done) | (simp [*]; done), by repeat (first | exact Drawn0.refl _ | apply Drawn0.step)⟩
             · rw [if_neg c8] at H
               have c8b0 : (!((((rd_T38 l0 x13_1).f0).toList) == (((rd_T38 l1 x13_1).f0).toList)) || ((!(((rd_T38 l0 x13_1).f1.f0) == ((rd_T38 l1 x13_1).f1.f0)) || (!(((rd_T38 l0 x13_1).f1.f1) == ((rd_T38 l1 x13_1).f1.f1)))))) = false := by simpa using c8
               clear c8
               have H' := Aside0.mk H
               clear H
               have p137 : 0 ≤ (x13_1 : Int) := of_decide_eq_true (by first | (with_reducible assumption) | assumption)
               have q137 : x13_1 < (l0.length : Int) := of_decide_eq_true (by first | (with_reducible assumption) | assumption)
               obtain ⟨ad137, e137, hx137_0, hx137_1, hx137_2⟩ := at_T38 HR0.out x13_1 p137 q137
               cases e137
               replace p137 := eq_true p137
               replace q137 := eq_true q137
               have p138 : 0 ≤ (x13_1 : Int) := of_decide_eq_true (by first | (with_reducible assumption) | assumption)
               have q138 : x13_1 < (l1.length : Int) := of_decide_eq_true (by first | (with_reducible assumption) | assumption)
               obtain ⟨ad138, e138, hx138_0, hx138_1, hx138_2⟩ := at_T38 HR1.out x13_1 p138 q138
               cases e138
               replace p138 := eq_true p138
               replace q138 := eq_true q138
               go_wp2
               repeat (go_quiet (fail); try go_wp2)
               go_roundg k1
               case measure => have := HK1.out; omega
               case rel => exact ⟨(wrap64 (x13_1 + 1)), sm_, H', ⟨by have := HK1.out; omega⟩, by repeat (first | exact Drawn0.refl _ | apply Drawn0.step)⟩
           · rw [if_neg c7] at H
             exact absurd H (by simp)
         · rw [if_neg c6] at H
           exact absurd H (by simp)
       · rw [if_neg c5] at H
         exact absurd H (by simp)
     · rw [if_neg c4] at H
       have c4b0 : decide (x13_1 < (l0.length : Int)) = false := decide_eq_false c4
       clear c4
       obtain rfl := Option.some.inj H
       go_wp2
       repeat (go_quiet (fail); try go_wp2)
       go_ret
       exact ⟨by first | rfl | (simp; done) | (simp [*]; done), by repeat (first | exact Drawn0.refl _ | apply Drawn0.step)⟩
 · rw [if_neg c3] at H
   have c3b0 : ((l0.length : Int) == (l1.length : Int)) = false := beq_eq_false_iff_ne.mpr c3
   have c3b1 : ((l0.length : Int) != (l1.length : Int)) = true := bne_iff_ne.mpr c3
   have c3b2 : (l0.length == l1.length) = false := by first | simpa using c3 | (simp at c3 ⊢; omega)
   obtain rfl := Option.some.inj H
   go_enter Try.func44, Try.ntmps44
   go_wp2
   repeat (go_quiet (fail); try go_wp2)
   go_ret
   exact ⟨by first | rfl | (simp; done) | (simp [*]; done), by repeat (first | exact Drawn0.refl _ | apply Drawn0.step)⟩
end Go.Proofs.Ytnjeeedndnfglaa.X
end
section
namespace Go.Proofs.Ytnjeeedndnfglaa.X
open Go.RowKit Go.Proofs.YtnjeeedndnfglaaW.PrintWords Go.Proofs.YtnjeeedndnfglaaW.PrintLast Go.Proofs.YtnjeeedndnfglaaW.PrintMore
attribute [local go_sem] max2_int min2_int max_two min_two max_three min_three max_four min_four   -- for this text's walks alone
set_option linter.unusedVariables false
set_option linter.unusedSimpArgs false

theorem eqA40 (d : Nat) (w : World) (x0 y0 : ByteArray) (x1 y1 : ByteArray) :
    (Op.equalIn (d + 2) 40 (.agg #[.string x0, .string x1]) (.agg #[.string y0, .string y1])).run Try.prog w = .ok (x0.toList == y0.toList && (x1.toList == y1.toList)) w := by
  refine eqA_of Try.underlying40 (by kernel_rfl) ?_
  refine eqf_cons (by rfl) (by go_simp; rfl) (by go_simp; rfl) (by go_simp) ?_
  exact eqf_last (by rfl) (by go_simp; rfl) (by go_simp; rfl) (by go_simp)
end Go.Proofs.Ytnjeeedndnfglaa.X
end
section
namespace Go.Proofs.Ytnjeeedndnfglaa.X
open Go.RowKit Go.Proofs.YtnjeeedndnfglaaW.PrintWords Go.Proofs.YtnjeeedndnfglaaW.PrintLast Go.Proofs.YtnjeeedndnfglaaW.PrintMore
attribute [local go_sem] max2_int min2_int max_two min_two max_three min_three max_four min_four   -- for this text's walks alone
set_option linter.unusedVariables false
set_option linter.unusedSimpArgs false
attribute [local go_sem high] eqA40
def api_Write.l0 : Nat → List (S40) → List (S40) → Int → Int → Option (Bool)
 | 0, _, _, _, _ => none
 | k + 1, x0, x1, x12, x13 => if x13 < x12 then (if 0 ≤ x13 then (if x13 < (x0.length : Int) then (if x13 < (x1.length : Int) then (if (!((((rd_T40 x0 x13).f0).toList) == (((rd_T40 x1 x13).f0).toList)) || (!((((rd_T40 x0 x13).f1).toList) == (((rd_T40 x1 x13).f1).toList)))) = true then (some false) else (api_Write.l0 k x0 x1 x12 (wrap64 (x13 + 1)))) else (none)) else (none)) else (none)) else (some true)
def api_Write.f (k : Nat) (l0 : List (S40)) (l1 : List (S40)) : Option (Bool) := if (l0.length : Int) = (l1.length : Int) then (api_Write.l0 k l0 l1 (l0.length : Int) 0) else (some false)
set_option maxHeartbeats 40000000 in
set_option maxRecDepth 100000 in
theorem api_Write.calls (k : Nat) (A0 : Option Addr) (c0 : Nat) (l0 : List (S40)) (A1 : Option Addr) (c1 : Nat) (l1 : List (S40)) (r : Bool) (w : World) (hr0 : Kd.C k40 w A0 l0.length l0) (hc0 : l0.length ≤ c0) (hr1 : Kd.C k40 w A1 l1.length l1) (hc1 : l1.length ≤ c1) (h : api_Write.f k l0 l1 = some r) :
 Calls Try.prog 45 #[.slice A0 l0.length c0, .slice A1 l1.length c1] w fun e w' => e = .returned (.bool r) ∧ Drawn0 w w' := by
 have hu40 := Try.underlying40
 have HR0 := Aside0.mk hr0
 have HC0 := Aside0.mk hc0
 clear hr0 hc0
 have HR1 := Aside0.mk hr1
 have HC1 := Aside0.mk hc1
 clear hr1 hc1
 have H : (if (l0.length : Int) = (l1.length : Int) then (api_Write.l0 k l0 l1 (l0.length : Int) 0) else (some false)) = some r := h
 clear h
 by_cases c3 : (l0.length : Int) = (l1.length : Int)
 · rw [if_pos c3] at H
   have c3b0 : ((l0.length : Int) == (l1.length : Int)) = true := beq_iff_eq.mpr c3
   have c3b1 : ((l0.length : Int) != (l1.length : Int)) = false := bne_eq_false_iff_eq.mpr c3
   have c3b2 : (l0.length == l1.length) = true := by first | simpa using c3 | (simp at c3 ⊢; omega)
   clear c3
   have H' := Aside0.mk H
   clear H
   go_enter Try.func45, Try.ntmps45
   go_wp2
   repeat (go_quiet (fail); try go_wp2)
   go_loopg [13] k (fun kq v13 w' => ∃ (x13_1 : Int), v13 = .int .i64 x13_1 ∧ Aside0 (api_Write.l0 kq l0 l1 (l0.length : Int) x13_1 = some r) ∧ Aside0 (kq ≤ k) ∧ Drawn0 w w')
   case atStart => exact ⟨(0), sm_, H', ⟨Nat.le_refl _⟩, by repeat (first | exact Drawn0.refl _ | apply Drawn0.step)⟩
   case round =>
    clear H'
    try clear c1
    try clear p2
    try clear c3
    try clear c3b0
    try clear c3b1
    try clear c3b2
    obtain ⟨x13_1, rfl, HA, HK1, ⟨m1, rfl⟩⟩ := hrel
    cases gk with
    | zero => exact absurd HA.out (by simp [api_Write.l0])
    | succ k1 =>
     have H := HA.out
     clear HA
     simp only [api_Write.l0] at H
     by_cases c4 : x13_1 < (l0.length : Int)
     · rw [if_pos c4] at H
       have c4b0 : decide (x13_1 < (l0.length : Int)) = true := decide_eq_true c4
       clear c4
       by_cases c5 : 0 ≤ x13_1
       · rw [if_pos c5] at H
         have c5b0 : decide (0 ≤ x13_1) = true := decide_eq_true c5
         clear c5
         by_cases c6 : x13_1 < (l0.length : Int)
         · rw [if_pos c6] at H
           have c6b0 : decide (x13_1 < (l0.length : Int)) = true := decide_eq_true c6
           clear c6
           by_cases c7 : x13_1 < (l1.length : Int)
           · rw [if_pos c7] at H
             have c7b0 : decide (x13_1 < (l1.length : Int)) = true := decide_eq_true c7
             clear c7
             by_cases c8 : (!((((rd_T40 l0 x13_1).f0).toList) == (((rd_T40 l1 x13_1).f0).toList)) || (!((((rd_T40 l0 x13_1).f1).toList) == (((rd_T40 l1 x13_1).f1).toList)))) = true
             · rw [if_pos c8] at H
               have c8b0 : (!((((rd_T40 l0 x13_1).f0).toList) == (((rd_T40 l1 x13_1).f0).toList)) || (!((((rd_T40 l0 x13_1).f1).toList) == (((rd_T40 l1 x13_1).f1).toList)))) = true := c8
               clear c8
               obtain rfl := Option.some.inj H
               have p139 : 0 ≤ (x13_1 : Int) := of_decide_eq_true (by first | (with_reducible assumption) | assumption)
               have q139 : x13_1 < (l0.length : Int) := of_decide_eq_true (by first | (with_reducible assumption) | assumption)
               obtain ⟨ad139, e139, hx139_0, hx139_1⟩ := at_T40 HR0.out x13_1 p139 q139
               cases e139
               replace p139 := eq_true p139
               replace q139 := eq_true q139
               have p140 : 0 ≤ (x13_1 : Int) := of_decide_eq_true (by first | (with_reducible assumption) | assumption)
               have q140 : x13_1 < (l1.length : Int) := of_decide_eq_true (by first | (with_reducible assumption) | assumption)
               obtain ⟨ad140, e140, hx140_0, hx140_1⟩ := at_T40 HR1.out x13_1 p140 q140
               cases e140
               replace p140 := eq_true p140
               replace q140 := eq_true q140
               go_wp2
               repeat (go_quiet (fail); try go_wp2)
               go_ret
               exact ⟨by first | rfl | (simp; done) | (simp [*]; done), by repeat (first | exact Drawn0.refl _ | apply Drawn0.step)⟩
             · rw [if_neg c8] at H
               have c8b0 : (!((((rd_T40 l0 x13_1).f0).toList) == (((rd_T40 l1 x13_1).f0).toList)) || (!((((rd_T40 l0 x13_1).f1).toList) == (((rd_T40 l1 x13_1).f1).toList)))) = false := by simpa using c8
               clear c8
               have H' := Aside0.mk H
               clear H
               have p139 : 0 ≤ (x13_1 : Int) := of_decide_eq_true (by first | (with_reducible assumption) | assumption)
               have q139 : x13_1 < (l0.length : Int) := of_decide_eq_true (by first | (with_reducible assumption) | assumption)
               obtain ⟨ad139, e139, hx139_0, hx139_1⟩ := at_T40 HR0.out x13_1 p139 q139
               cases e139
               replace p139 := eq_true p139
               replace q139 := eq_true q139
               have p140 : 0 ≤ (x13_1 : Int) := of_decide_eq_true (by first | (with_reducible assumption) | assumption)
               have q140 : x13_1 < (l1.length : Int) := of_decide_eq_true (by first | (with_reducible assumption) | assumption)
               obtain ⟨ad140, e140, hx140_0, hx140_1⟩ := at_T40 HR1.out x13_1 p140 q140
               cases e140
               replace p140 := eq_true p140
               replace q140 := eq_true q140
               go_wp2
               repeat (go_quiet (fail); try go_wp2)
               go_roundg k1
               case measure => have := HK1.out; omega
               case rel => exact ⟨(wrap64 (x13_1 + 1)), sm_, H', ⟨by have := HK1.out; omega⟩, by repeat (first | exact Drawn0.refl _ | apply Drawn0.step)⟩
           · rw [if_neg c7] at H
             exact absurd H (by simp)
         · rw [if_neg c6] at H
           exact absurd H (by simp)
       · rw [if_neg c5] at H
         exact absurd H (by simp)
     · rw [if_neg c4] at H
       have c4b0 : decide (x13_1 < (l0.length : Int)) = false := decide_eq_false c4
       clear c4
       obtain rfl := Option.some.inj H
       go_wp2
       repeat (go_quiet (fail); try go_wp2)
       go_ret
       exact ⟨by first | rfl | (simp; done) | (simp [*]; done), by repeat (first | exact Drawn0.refl _ | apply Drawn0.step)⟩
 · rw [if_neg c3] at H
   have c3b0 : ((l0.length : Int) == (l1.length : Int)) = false := beq_eq_false_iff_ne.mpr c3
   have c3b1 : ((l0.length : Int) != (l1.length : Int)) = true := bne_iff_ne.mpr c3
   have c3b2 : (l0.length == l1.length) = false := by first | simpa using c3 | (simp at c3 ⊢; omega)
   obtain rfl := Option.some.inj H
   go_enter Try.func45, Try.ntmps45
   go_wp2
   repeat (go_quiet (fail); try go_wp2)
   go_ret
   exact ⟨by first | rfl | (simp; done) | (simp [*]; done), by repeat (first | exact Drawn0.refl _ | apply Drawn0.step)⟩
end Go.Proofs.Ytnjeeedndnfglaa.X
end
section
namespace Go.Proofs.Ytnjeeedndnfglaa.X
open Go.RowKit Go.Proofs.YtnjeeedndnfglaaW.PrintWords Go.Proofs.YtnjeeedndnfglaaW.PrintLast Go.Proofs.YtnjeeedndnfglaaW.PrintMore
attribute [local go_sem] max2_int min2_int max_two min_two max_three min_three max_four min_four   -- for this text's walks alone
set_option linter.unusedVariables false
set_option linter.unusedSimpArgs false
attribute [local go_sem high] eqA23 eqA25
def command_Same.f (k : Nat) (a0_0 : Int) (a0_1 : Int) (a0_2 : Int) (a0_3 : Int) (a0_4 : Int) (a0_5 : Int) (l0_6 : List (S38)) (l0_7 : List (S40)) (a0_8 : Bool) (a1_0 : Int) (a1_1 : Int) (a1_2 : Int) (a1_3 : Int) (a1_4 : Int) (a1_5 : Int) (l1_6 : List (S38)) (l1_7 : List (S40)) (a1_8 : Bool) : Option (Bool) := if a0_0 = a1_0 then (if (a0_1 == a1_1 && (a0_2 == a1_2)) = true then (if (a0_3 == a1_3 && (a0_4 == a1_4)) = true then (if a0_5 = a1_5 then (if (a0_8 == a1_8) = true then ((api_Read.f k l0_6 l1_6).bind fun t143 => (if t143 = true then ((api_Write.f k l0_7 l1_7).bind fun t144 => (some t144)) else (some false))) else (some false)) else (some false)) else (some false)) else (some false)) else (some false)
set_option maxHeartbeats 40000000 in
set_option maxRecDepth 100000 in
theorem command_Same.calls (k : Nat) (a0_0 : Int) (a0_1 : Int) (a0_2 : Int) (a0_3 : Int) (a0_4 : Int) (a0_5 : Int) (A0_6 : Option Addr) (c0_6 : Nat) (l0_6 : List (S38)) (A0_7 : Option Addr) (c0_7 : Nat) (l0_7 : List (S40)) (a0_8 : Bool) (a1_0 : Int) (a1_1 : Int) (a1_2 : Int) (a1_3 : Int) (a1_4 : Int) (a1_5 : Int) (A1_6 : Option Addr) (c1_6 : Nat) (l1_6 : List (S38)) (A1_7 : Option Addr) (c1_7 : Nat) (l1_7 : List (S40)) (a1_8 : Bool) (r : Bool) (w : World) (hr0_6 : Kd.C k38 w A0_6 l0_6.length l0_6) (hc0_6 : l0_6.length ≤ c0_6) (hr0_7 : Kd.C k40 w A0_7 l0_7.length l0_7) (hc0_7 : l0_7.length ≤ c0_7) (hr1_6 : Kd.C k38 w A1_6 l1_6.length l1_6) (hc1_6 : l1_6.length ≤ c1_6) (hr1_7 : Kd.C k40 w A1_7 l1_7.length l1_7) (hc1_7 : l1_7.length ≤ c1_7) (h : command_Same.f k a0_0 a0_1 a0_2 a0_3 a0_4 a0_5 l0_6 l0_7 a0_8 a1_0 a1_1 a1_2 a1_3 a1_4 a1_5 l1_6 l1_7 a1_8 = some r) :
 Calls Try.prog 25 #[.agg #[.int .i64 a0_0, .int .i64 a0_1, .int .i64 a0_2, .int .i64 a0_3, .int .i64 a0_4, .int .i64 a0_5, .slice A0_6 l0_6.length c0_6, .slice A0_7 l0_7.length c0_7, .bool a0_8], .agg #[.int .i64 a1_0, .int .i64 a1_1, .int .i64 a1_2, .int .i64 a1_3, .int .i64 a1_4, .int .i64 a1_5, .slice A1_6 l1_6.length c1_6, .slice A1_7 l1_7.length c1_7, .bool a1_8]] w fun e w' => e = .returned (.bool r) ∧ Below w.heap.size w w' := by
 have hu29 := Try.underlying29
 have hu23 := Try.underlying23
 have hu25 := Try.underlying25
 have HR0_6 := Aside0.mk hr0_6
 have HC0_6 := Aside0.mk hc0_6
 clear hr0_6 hc0_6
 have HR0_7 := Aside0.mk hr0_7
 have HC0_7 := Aside0.mk hc0_7
 clear hr0_7 hc0_7
 have HR1_6 := Aside0.mk hr1_6
 have HC1_6 := Aside0.mk hc1_6
 clear hr1_6 hc1_6
 have HR1_7 := Aside0.mk hr1_7
 have HC1_7 := Aside0.mk hc1_7
 clear hr1_7 hc1_7
 have HB := Aside0.mk (Below.refl w.heap.size w)
 have H : (if a0_0 = a1_0 then (if (a0_1 == a1_1 && (a0_2 == a1_2)) = true then (if (a0_3 == a1_3 && (a0_4 == a1_4)) = true then (if a0_5 = a1_5 then (if (a0_8 == a1_8) = true then ((api_Read.f k l0_6 l1_6).bind fun t143 => (if t143 = true then ((api_Write.f k l0_7 l1_7).bind fun t144 => (some t144)) else (some false))) else (some false)) else (some false)) else (some false)) else (some false)) else (some false)) = some r := h
 clear h
 by_cases c3 : a0_0 = a1_0
 · rw [if_pos c3] at H
   have c3b0 : (a0_0 == a1_0) = true := beq_iff_eq.mpr c3
   have c3b1 : (a0_0 != a1_0) = false := bne_eq_false_iff_eq.mpr c3
   clear c3
   by_cases c4 : (a0_1 == a1_1 && (a0_2 == a1_2)) = true
   · rw [if_pos c4] at H
     have c4b0 : (a0_1 == a1_1 && (a0_2 == a1_2)) = true := c4
     (try (have c4b1 : decide (a0_1 = a1_1 && (a0_2 == a1_2)) = true := by simpa using c4))
     (try (have c4b2 : (a0_1 == a1_1 && (a0_2 == a1_2)) = true := by simpa using c4))
     clear c4
     by_cases c5 : (a0_3 == a1_3 && (a0_4 == a1_4)) = true
     · rw [if_pos c5] at H
       have c5b0 : (a0_3 == a1_3 && (a0_4 == a1_4)) = true := c5
       (try (have c5b1 : decide (a0_3 = a1_3 && (a0_4 == a1_4)) = true := by simpa using c5))
       (try (have c5b2 : (a0_3 == a1_3 && (a0_4 == a1_4)) = true := by simpa using c5))
       clear c5
       by_cases c6 : a0_5 = a1_5
       · rw [if_pos c6] at H
         have c6b0 : (a0_5 == a1_5) = true := beq_iff_eq.mpr c6
         have c6b1 : (a0_5 != a1_5) = false := bne_eq_false_iff_eq.mpr c6
         clear c6
         by_cases c7 : (a0_8 == a1_8) = true
         · rw [if_pos c7] at H
           have c7b0 : (a0_8 == a1_8) = true := c7
           (try (have c7b1 : decide (a0_8 = a1_8) = true := by simpa using c7))
           (try (have c7b2 : (a0_8 == a1_8) = true := by simpa using c7))
           clear c7
           obtain ⟨t143, A8, H⟩ := bs_ H
           by_cases c9 : t143 = true
           · subst c9
             rw [if_pos rfl] at H
             obtain ⟨t144, A10, H⟩ := bs_ H
             obtain rfl := Option.some.inj H
             go_enter Try.func25, Try.ntmps25
             go_wp2_with (first | ((with_reducible refine gate_dst (N := 2) rfl ?_); refine bx_ 2 29 #[.int .i64 a0_0, .int .i64 a0_1, .int .i64 a0_2, .int .i64 a0_3, .int .i64 a0_4, .int .i64 a0_5, .slice A0_6 l0_6.length c0_6, .slice A0_7 l0_7.length c0_7, .bool a0_8] ?_; intro gb141 hg w11 hbox hb; have BK141 := Aside0.mk hbox; have GE141 := ge_ HB hg; replace HB := hs_ HB hb; clear hb hbox hg) | ((with_reducible refine gate_dst (N := 3) rfl ?_); refine bx_ 3 29 #[.int .i64 a1_0, .int .i64 a1_1, .int .i64 a1_2, .int .i64 a1_3, .int .i64 a1_4, .int .i64 a1_5, .slice A1_6 l1_6.length c1_6, .slice A1_7 l1_7.length c1_7, .bool a1_8] ?_; intro gb142 hg w12 hbox hb; have BK142 := Aside0.mk hbox; have GE142 := ge_ HB hg; have NB141_142 := na_ hg BK141; replace BK141 := bb_ BK141 hb; replace HB := hs_ HB hb; clear hb hbox hg; refine ne2_ NB141_142 fun hnb13 hnc13 => ?_; refine blk9_ BK141.out fun hcz14_0 hcz14_1 hcz14_2 hcz14_3 hcz14_4 hcz14_5 hcz14_6 hcz14_7 hcz14_8 hfz14_0 hfz14_1 hfz14_2 hfz14_3 hfz14_4 hfz14_5 hfz14_6 hfz14_7 hfz14_8 => ?_; refine blk9_ BK142.out fun hcz15_0 hcz15_1 hcz15_2 hcz15_3 hcz15_4 hcz15_5 hcz15_6 hcz15_7 hcz15_8 hfz15_0 hfz15_1 hfz15_2 hfz15_3 hfz15_4 hfz15_5 hfz15_6 hfz15_7 hfz15_8 => ?_) | (go_at_call 44; (with_reducible refine (api_Read.calls k _ _ l0_6 _ _ l1_6 true _ ?side1 ?side2 ?side3 ?side4 A8.out).mono ?_); (case side1 => exact kc_ (Kd.C_below HR0_6.out HB.out)); (case side2 => exact HC0_6.out); (case side3 => exact kc_ (Kd.C_below HR1_6.out HB.out)); (case side4 => exact HC1_6.out); rintro e w' ⟨rfl, ⟨nd, rfl⟩⟩) | (go_at_call 45; (with_reducible refine (api_Write.calls k _ _ l0_7 _ _ l1_7 t144 _ ?side1 ?side2 ?side3 ?side4 A10.out).mono ?_); (case side1 => repeat (first | exact (Kd.C_below HR0_7.out lbt_) | (with_reducible refine Kd.C_alloc ?_ _) | (with_reducible refine Kd.C_drewN ?_ _) | (with_reducible refine Kd.C_drew ?_))); (case side2 => exact HC0_7.out); (case side3 => repeat (first | exact (Kd.C_below HR1_7.out lbt_) | (with_reducible refine Kd.C_alloc ?_ _) | (with_reducible refine Kd.C_drewN ?_ _) | (with_reducible refine Kd.C_drew ?_))); (case side4 => exact HC1_7.out); rintro e w' ⟨rfl, ⟨nd, rfl⟩⟩))
             go_ret
             exact ⟨by first | rfl | (simp [errW_none, errW_some] <;> rfl) | (simp [*, errW_none, errW_some] <;> rfl), by repeat (first | (with_reducible first | exact HB.out | apply below_alloc | apply pw_below_drewN | apply below_drew1 | refine below_set ?_ GE141.out | refine below_set ?_ GE142.out) | exact HB.out)⟩
           · replace c9 := Bool.eq_false_iff.mpr c9
             subst c9
             rw [if_neg (show ¬ (false = true) by decide)] at H
             obtain rfl := Option.some.inj H
             go_enter Try.func25, Try.ntmps25
             go_wp2_with (first | ((with_reducible refine gate_dst (N := 2) rfl ?_); refine bx_ 2 29 #[.int .i64 a0_0, .int .i64 a0_1, .int .i64 a0_2, .int .i64 a0_3, .int .i64 a0_4, .int .i64 a0_5, .slice A0_6 l0_6.length c0_6, .slice A0_7 l0_7.length c0_7, .bool a0_8] ?_; intro gb141 hg w16 hbox hb; have BK141 := Aside0.mk hbox; have GE141 := ge_ HB hg; replace HB := hs_ HB hb; clear hb hbox hg) | ((with_reducible refine gate_dst (N := 3) rfl ?_); refine bx_ 3 29 #[.int .i64 a1_0, .int .i64 a1_1, .int .i64 a1_2, .int .i64 a1_3, .int .i64 a1_4, .int .i64 a1_5, .slice A1_6 l1_6.length c1_6, .slice A1_7 l1_7.length c1_7, .bool a1_8] ?_; intro gb142 hg w17 hbox hb; have BK142 := Aside0.mk hbox; have GE142 := ge_ HB hg; have NB141_142 := na_ hg BK141; replace BK141 := bb_ BK141 hb; replace HB := hs_ HB hb; clear hb hbox hg; refine ne2_ NB141_142 fun hnb18 hnc18 => ?_; refine blk9_ BK141.out fun hcz19_0 hcz19_1 hcz19_2 hcz19_3 hcz19_4 hcz19_5 hcz19_6 hcz19_7 hcz19_8 hfz19_0 hfz19_1 hfz19_2 hfz19_3 hfz19_4 hfz19_5 hfz19_6 hfz19_7 hfz19_8 => ?_; refine blk9_ BK142.out fun hcz20_0 hcz20_1 hcz20_2 hcz20_3 hcz20_4 hcz20_5 hcz20_6 hcz20_7 hcz20_8 hfz20_0 hfz20_1 hfz20_2 hfz20_3 hfz20_4 hfz20_5 hfz20_6 hfz20_7 hfz20_8 => ?_) | (go_at_call 44; (with_reducible refine (api_Read.calls k _ _ l0_6 _ _ l1_6 false _ ?side1 ?side2 ?side3 ?side4 A8.out).mono ?_); (case side1 => exact kc_ (Kd.C_below HR0_6.out HB.out)); (case side2 => exact HC0_6.out); (case side3 => exact kc_ (Kd.C_below HR1_6.out HB.out)); (case side4 => exact HC1_6.out); rintro e w' ⟨rfl, ⟨nd, rfl⟩⟩))
             go_ret
             exact ⟨by first | rfl | (simp [errW_none, errW_some] <;> rfl) | (simp [*, errW_none, errW_some] <;> rfl), by repeat (first | (with_reducible first | exact HB.out | apply below_alloc | apply pw_below_drewN | apply below_drew1 | refine below_set ?_ GE141.out | refine below_set ?_ GE142.out) | exact HB.out)⟩
         · rw [if_neg c7] at H
           have c7b0 : (a0_8 == a1_8) = false := by simpa using c7
           (try (have c7b1 : decide (a0_8 = a1_8) = false := by simpa using c7))
           (try (have c7b2 : (a0_8 == a1_8) = false := by simpa using c7))
           (try (have c7b3 : ¬ (a0_8 = a1_8) := by simpa using c7))
           clear c7
           obtain rfl := Option.some.inj H
           go_enter Try.func25, Try.ntmps25
           go_wp2_with (first | ((with_reducible refine gate_dst (N := 2) rfl ?_); refine bx_ 2 29 #[.int .i64 a0_0, .int .i64 a0_1, .int .i64 a0_2, .int .i64 a0_3, .int .i64 a0_4, .int .i64 a0_5, .slice A0_6 l0_6.length c0_6, .slice A0_7 l0_7.length c0_7, .bool a0_8] ?_; intro gb141 hg w21 hbox hb; have BK141 := Aside0.mk hbox; have GE141 := ge_ HB hg; replace HB := hs_ HB hb; clear hb hbox hg) | ((with_reducible refine gate_dst (N := 3) rfl ?_); refine bx_ 3 29 #[.int .i64 a1_0, .int .i64 a1_1, .int .i64 a1_2, .int .i64 a1_3, .int .i64 a1_4, .int .i64 a1_5, .slice A1_6 l1_6.length c1_6, .slice A1_7 l1_7.length c1_7, .bool a1_8] ?_; intro gb142 hg w22 hbox hb; have BK142 := Aside0.mk hbox; have GE142 := ge_ HB hg; have NB141_142 := na_ hg BK141; replace BK141 := bb_ BK141 hb; replace HB := hs_ HB hb; clear hb hbox hg; refine ne2_ NB141_142 fun hnb23 hnc23 => ?_; refine blk9_ BK141.out fun hcz24_0 hcz24_1 hcz24_2 hcz24_3 hcz24_4 hcz24_5 hcz24_6 hcz24_7 hcz24_8 hfz24_0 hfz24_1 hfz24_2 hfz24_3 hfz24_4 hfz24_5 hfz24_6 hfz24_7 hfz24_8 => ?_; refine blk9_ BK142.out fun hcz25_0 hcz25_1 hcz25_2 hcz25_3 hcz25_4 hcz25_5 hcz25_6 hcz25_7 hcz25_8 hfz25_0 hfz25_1 hfz25_2 hfz25_3 hfz25_4 hfz25_5 hfz25_6 hfz25_7 hfz25_8 => ?_))
           go_ret
           exact ⟨by first | rfl | (simp [errW_none, errW_some] <;> rfl) | (simp [*, errW_none, errW_some] <;> rfl), by repeat (first | (with_reducible first | exact HB.out | apply below_alloc | apply pw_below_drewN | apply below_drew1 | refine below_set ?_ GE141.out | refine below_set ?_ GE142.out) | exact HB.out)⟩
       · rw [if_neg c6] at H
         have c6b0 : (a0_5 == a1_5) = false := beq_eq_false_iff_ne.mpr c6
         have c6b1 : (a0_5 != a1_5) = true := bne_iff_ne.mpr c6
         obtain rfl := Option.some.inj H
         go_enter Try.func25, Try.ntmps25
         go_wp2_with (first | ((with_reducible refine gate_dst (N := 2) rfl ?_); refine bx_ 2 29 #[.int .i64 a0_0, .int .i64 a0_1, .int .i64 a0_2, .int .i64 a0_3, .int .i64 a0_4, .int .i64 a0_5, .slice A0_6 l0_6.length c0_6, .slice A0_7 l0_7.length c0_7, .bool a0_8] ?_; intro gb141 hg w26 hbox hb; have BK141 := Aside0.mk hbox; have GE141 := ge_ HB hg; replace HB := hs_ HB hb; clear hb hbox hg) | ((with_reducible refine gate_dst (N := 3) rfl ?_); refine bx_ 3 29 #[.int .i64 a1_0, .int .i64 a1_1, .int .i64 a1_2, .int .i64 a1_3, .int .i64 a1_4, .int .i64 a1_5, .slice A1_6 l1_6.length c1_6, .slice A1_7 l1_7.length c1_7, .bool a1_8] ?_; intro gb142 hg w27 hbox hb; have BK142 := Aside0.mk hbox; have GE142 := ge_ HB hg; have NB141_142 := na_ hg BK141; replace BK141 := bb_ BK141 hb; replace HB := hs_ HB hb; clear hb hbox hg; refine ne2_ NB141_142 fun hnb28 hnc28 => ?_; refine blk9_ BK141.out fun hcz29_0 hcz29_1 hcz29_2 hcz29_3 hcz29_4 hcz29_5 hcz29_6 hcz29_7 hcz29_8 hfz29_0 hfz29_1 hfz29_2 hfz29_3 hfz29_4 hfz29_5 hfz29_6 hfz29_7 hfz29_8 => ?_; refine blk9_ BK142.out fun hcz30_0 hcz30_1 hcz30_2 hcz30_3 hcz30_4 hcz30_5 hcz30_6 hcz30_7 hcz30_8 hfz30_0 hfz30_1 hfz30_2 hfz30_3 hfz30_4 hfz30_5 hfz30_6 hfz30_7 hfz30_8 => ?_))
         go_ret
         exact ⟨by first | rfl | (simp [errW_none, errW_some] <;> rfl) | (simp [*, errW_none, errW_some] <;> rfl), by repeat (first | (with_reducible first | exact HB.out | apply below_alloc | apply pw_below_drewN | apply below_drew1 | refine below_set ?_ GE141.out | refine below_set ?_ GE142.out) | exact HB.out)⟩
     · rw [if_neg c5] at H
       have c5b0 : (a0_3 == a1_3 && (a0_4 == a1_4)) = false := by simpa using c5
       (try (have c5b1 : decide (a0_3 = a1_3 && (a0_4 == a1_4)) = false := by simpa using c5))
       (try (have c5b2 : (a0_3 == a1_3 && (a0_4 == a1_4)) = false := by simpa using c5))
       (try (have c5b3 : ¬ (a0_3 = a1_3 && (a0_4 == a1_4)) := by simpa using c5))
       clear c5
       obtain rfl := Option.some.inj H
       go_enter Try.func25, Try.ntmps25
       go_wp2_with (first | ((with_reducible refine gate_dst (N := 2) rfl ?_); refine bx_ 2 29 #[.int .i64 a0_0, .int .i64 a0_1, .int .i64 a0_2, .int .i64 a0_3, .int .i64 a0_4, .int .i64 a0_5, .slice A0_6 l0_6.length c0_6, .slice A0_7 l0_7.length c0_7, .bool a0_8] ?_; intro gb141 hg w31 hbox hb; have BK141 := Aside0.mk hbox; have GE141 := ge_ HB hg; replace HB := hs_ HB hb; clear hb hbox hg) | ((with_reducible refine gate_dst (N := 3) rfl ?_); refine bx_ 3 29 #[.int .i64 a1_0, .int .i64 a1_1, .int .i64 a1_2, .int .i64 a1_3, .int .i64 a1_4, .int .i64 a1_5, .slice A1_6 l1_6.length c1_6, .slice A1_7 l1_7.length c1_7, .bool a1_8] ?_; intro gb142 hg w32 hbox hb; have BK142 := Aside0.mk hbox; have GE142 := ge_ HB hg; have NB141_142 := na_ hg BK141; replace BK141 := bb_ BK141 hb; replace HB := hs_ HB hb; clear hb hbox hg; refine ne2_ NB141_142 fun hnb33 hnc33 => ?_; refine blk9_ BK141.out fun hcz34_0 hcz34_1 hcz34_2 hcz34_3 hcz34_4 hcz34_5 hcz34_6 hcz34_7 hcz34_8 hfz34_0 hfz34_1 hfz34_2 hfz34_3 hfz34_4 hfz34_5 hfz34_6 hfz34_7 hfz34_8 => ?_; refine blk9_ BK142.out fun hcz35_0 hcz35_1 hcz35_2 hcz35_3 hcz35_4 hcz35_5 hcz35_6 hcz35_7 hcz35_8 hfz35_0 hfz35_1 hfz35_2 hfz35_3 hfz35_4 hfz35_5 hfz35_6 hfz35_7 hfz35_8 => ?_))
       go_ret
       exact ⟨by first | rfl | (simp [errW_none, errW_some] <;> rfl) | (simp [*, errW_none, errW_some] <;> rfl), by repeat (first | (with_reducible first | exact HB.out | apply below_alloc | apply pw_below_drewN | apply below_drew1 | refine below_set ?_ GE141.out | refine below_set ?_ GE142.out) | exact HB.out)⟩
   · rw [if_neg c4] at H
     have c4b0 : (a0_1 == a1_1 && (a0_2 == a1_2)) = false := by simpa using c4
     (try (have c4b1 : decide (a0_1 = a1_1 && (a0_2 == a1_2)) = false := by simpa using c4))
     (try (have c4b2 : (a0_1 == a1_1 && (a0_2 == a1_2)) = false := by simpa using c4))
     (try (have c4b3 : ¬ (a0_1 = a1_1 && (a0_2 == a1_2)) := by simpa using c4))
     clear c4
     obtain rfl := Option.some.inj H
     go_enter Try.func25, Try.ntmps25
     go_wp2_with (first | ((with_reducible refine gate_dst (N := 2) rfl ?_); refine bx_ 2 29 #[.int .i64 a0_0, .int .i64 a0_1, .int .i64 a0_2, .int .i64 a0_3, .int .i64 a0_4, .int .i64 a0_5, .slice A0_6 l0_6.length c0_6, .slice A0_7 l0_7.length c0_7, .bool a0_8] ?_; intro gb141 hg w36 hbox hb; have BK141 := Aside0.mk hbox; have GE141 := ge_ HB hg; replace HB := hs_ HB hb; clear hb hbox hg) | ((with_reducible refine gate_dst (N := 3) rfl ?_); refine bx_ 3 29 #[.int .i64 a1_0, .int .i64 a1_1, .int .i64 a1_2, .int .i64 a1_3, .int .i64 a1_4, .int .i64 a1_5, .slice A1_6 l1_6.length c1_6, .slice A1_7 l1_7.length c1_7, .bool a1_8] ?_; intro gb142 hg w37 hbox hb; have BK142 := Aside0.mk hbox; have GE142 := ge_ HB hg; have NB141_142 := na_ hg BK141; replace BK141 := bb_ BK141 hb; replace HB := hs_ HB hb; clear hb hbox hg; refine ne2_ NB141_142 fun hnb38 hnc38 => ?_; refine blk9_ BK141.out fun hcz39_0 hcz39_1 hcz39_2 hcz39_3 hcz39_4 hcz39_5 hcz39_6 hcz39_7 hcz39_8 hfz39_0 hfz39_1 hfz39_2 hfz39_3 hfz39_4 hfz39_5 hfz39_6 hfz39_7 hfz39_8 => ?_; refine blk9_ BK142.out fun hcz40_0 hcz40_1 hcz40_2 hcz40_3 hcz40_4 hcz40_5 hcz40_6 hcz40_7 hcz40_8 hfz40_0 hfz40_1 hfz40_2 hfz40_3 hfz40_4 hfz40_5 hfz40_6 hfz40_7 hfz40_8 => ?_))
     go_ret
     exact ⟨by first | rfl | (simp [errW_none, errW_some] <;> rfl) | (simp [*, errW_none, errW_some] <;> rfl), by repeat (first | (with_reducible first | exact HB.out | apply below_alloc | apply pw_below_drewN | apply below_drew1 | refine below_set ?_ GE141.out | refine below_set ?_ GE142.out) | exact HB.out)⟩
 · rw [if_neg c3] at H
   have c3b0 : (a0_0 == a1_0) = false := beq_eq_false_iff_ne.mpr c3
   have c3b1 : (a0_0 != a1_0) = true := bne_iff_ne.mpr c3
   obtain rfl := Option.some.inj H
   go_enter Try.func25, Try.ntmps25
   go_wp2_with (first | ((with_reducible refine gate_dst (N := 2) rfl ?_); refine bx_ 2 29 #[.int .i64 a0_0, .int .i64 a0_1, .int .i64 a0_2, .int .i64 a0_3, .int .i64 a0_4, .int .i64 a0_5, .slice A0_6 l0_6.length c0_6, .slice A0_7 l0_7.length c0_7, .bool a0_8] ?_; intro gb141 hg w41 hbox hb; have BK141 := Aside0.mk hbox; have GE141 := ge_ HB hg; replace HB := hs_ HB hb; clear hb hbox hg) | ((with_reducible refine gate_dst (N := 3) rfl ?_); refine bx_ 3 29 #[.int .i64 a1_0, .int .i64 a1_1, .int .i64 a1_2, .int .i64 a1_3, .int .i64 a1_4, .int .i64 a1_5, .slice A1_6 l1_6.length c1_6, .slice A1_7 l1_7.length c1_7, .bool a1_8] ?_; intro gb142 hg w42 hbox hb; have BK142 := Aside0.mk hbox; have GE142 := ge_ HB hg; have NB141_142 := na_ hg BK141; replace BK141 := bb_ BK141 hb; replace HB := hs_ HB hb; clear hb hbox hg; refine ne2_ NB141_142 fun hnb43 hnc43 => ?_; refine blk9_ BK141.out fun hcz44_0 hcz44_1 hcz44_2 hcz44_3 hcz44_4 hcz44_5 hcz44_6 hcz44_7 hcz44_8 hfz44_0 hfz44_1 hfz44_2 hfz44_3 hfz44_4 hfz44_5 hfz44_6 hfz44_7 hfz44_8 => ?_; refine blk9_ BK142.out fun hcz45_0 hcz45_1 hcz45_2 hcz45_3 hcz45_4 hcz45_5 hcz45_6 hcz45_7 hcz45_8 hfz45_0 hfz45_1 hfz45_2 hfz45_3 hfz45_4 hfz45_5 hfz45_6 hfz45_7 hfz45_8 => ?_))
   go_ret
   exact ⟨by first | rfl | (simp [errW_none, errW_some] <;> rfl) | (simp [*, errW_none, errW_some] <;> rfl), by repeat (first | (with_reducible first | exact HB.out | apply below_alloc | apply pw_below_drewN | apply below_drew1 | refine below_set ?_ GE141.out | refine below_set ?_ GE142.out) | exact HB.out)⟩
end Go.Proofs.Ytnjeeedndnfglaa.X
end
section
namespace Go.Proofs.Ytnjeeedndnfglaa.X
open Go.RowKit Go.Proofs.YtnjeeedndnfglaaW.PrintWords Go.Proofs.YtnjeeedndnfglaaW.PrintLast Go.Proofs.YtnjeeedndnfglaaW.PrintMore
attribute [local go_sem] max2_int min2_int max_two min_two max_three min_three max_four min_four   -- for this text's walks alone
set_option linter.unusedVariables false
set_option linter.unusedSimpArgs false
def stamp_within_int.f (a0 : Int) (a1 : Int) (a2 : Int) : Option (Bool) := if a0 ≥ a1 then (some (decide (a0 ≤ a2))) else (some false)
set_option maxHeartbeats 40000000 in
set_option maxRecDepth 100000 in
theorem stamp_within_int.calls (a0 : Int) (a1 : Int) (a2 : Int) (r : Bool) (w : World) (h : stamp_within_int.f a0 a1 a2 = some r) :
 Calls Try.prog 49 #[.int .i64 a0, .int .i64 a1, .int .i64 a2] w fun e w' => e = .returned (.bool r) ∧ Drawn0 w w' := by
 have H : (if a0 ≥ a1 then (some (decide (a0 ≤ a2))) else (some false)) = some r := h
 clear h
 by_cases c4 : a0 ≥ a1
 · rw [if_pos c4] at H
   have c4b0 : decide (a1 ≤ a0) = true := decide_eq_true c4
   clear c4
   obtain rfl := Option.some.inj H
   go_enter Try.func49, Try.ntmps49
   go_wp2
   go_ret
   exact ⟨by first | rfl | (simp; done) | (simp [*]; done), by repeat (first | exact Drawn0.refl _ | apply Drawn0.step)⟩
 · rw [if_neg c4] at H
   have c4b0 : decide (a1 ≤ a0) = false := decide_eq_false c4
   clear c4
   obtain rfl := Option.some.inj H
   go_enter Try.func49, Try.ntmps49
   go_wp2
   go_ret
   exact ⟨by first | rfl | (simp; done) | (simp [*]; done), by repeat (first | exact Drawn0.refl _ | apply Drawn0.step)⟩
end Go.Proofs.Ytnjeeedndnfglaa.X
end
section
namespace Go.Proofs.Ytnjeeedndnfglaa.X
open Go.RowKit Go.Proofs.YtnjeeedndnfglaaW.PrintWords Go.Proofs.YtnjeeedndnfglaaW.PrintLast Go.Proofs.YtnjeeedndnfglaaW.PrintMore
attribute [local go_sem] max2_int min2_int max_two min_two max_three min_three max_four min_four   -- for this text's walks alone
set_option linter.unusedVariables false
set_option linter.unusedSimpArgs false
def stamp_RightTxn.f (a0_0 : Int) (a0_1 : Int) : Option (Bool) := (stamp_within_int.f a0_0 0 3).bind fun t146 => (if t146 = true then ((stamp_within_int.f a0_1 1 1099511627776).bind fun t147 => (some t147)) else (some false))
set_option maxHeartbeats 40000000 in
set_option maxRecDepth 100000 in
theorem stamp_RightTxn.calls (a0_0 : Int) (a0_1 : Int) (r : Bool) (w : World) (h : stamp_RightTxn.f a0_0 a0_1 = some r) :
 Calls Try.prog 27 #[.agg #[.int .i64 a0_0, .int .i64 a0_1]] w fun e w' => e = .returned (.bool r) ∧ Below w.heap.size w w' := by
 have hu23 := Try.underlying23
 have HB := Aside0.mk (Below.refl w.heap.size w)
 have H : ((stamp_within_int.f a0_0 0 3).bind fun t146 => (if t146 = true then ((stamp_within_int.f a0_1 1 1099511627776).bind fun t147 => (some t147)) else (some false))) = some r := h
 clear h
 obtain ⟨t146, A2, H⟩ := bs_ H
 by_cases c3 : t146 = true
 · subst c3
   rw [if_pos rfl] at H
   obtain ⟨t147, A4, H⟩ := bs_ H
   obtain rfl := Option.some.inj H
   go_enter Try.func27, Try.ntmps27
   go_wp2_with (first | ((with_reducible refine gate_dst (N := 1) rfl ?_); refine bx_ 1 23 #[.int .i64 a0_0, .int .i64 a0_1] ?_; intro gb145 hg w5 hbox hb; have BK145 := Aside0.mk hbox; have GE145 := ge_ HB hg; replace HB := hs_ HB hb; clear hb hbox hg; refine blk2_ BK145.out fun hcz6_0 hcz6_1 hfz6_0 hfz6_1 => ?_) | ((with_reducible refine gate_callee (f := 49) rfl ?_); refine gl_ (some 5) Try.func49 #[.int .i64 a0_0, .int .i64 0, .int .i64 3] ?_; (with_reducible refine (stamp_within_int.calls a0_0 0 3 true _ A2.out).mono ?_); rintro e w' ⟨rfl, ⟨nd, rfl⟩⟩; refine ⟨_, rfl, ?_⟩) | (go_at_call 49; (with_reducible refine (stamp_within_int.calls a0_1 1 1099511627776 t147 _ A4.out).mono ?_); rintro e w' ⟨rfl, ⟨nd, rfl⟩⟩))
   go_ret
   exact ⟨by first | rfl | (simp [errW_none, errW_some] <;> rfl) | (simp [*, errW_none, errW_some] <;> rfl), by repeat (first | (with_reducible first | exact HB.out | apply below_alloc | apply pw_below_drewN | apply below_drew1 | refine below_set ?_ GE145.out) | exact HB.out)⟩
 · replace c3 := Bool.eq_false_iff.mpr c3
   subst c3
   rw [if_neg (show ¬ (false = true) by decide)] at H
   obtain rfl := Option.some.inj H
   go_enter Try.func27, Try.ntmps27
   go_wp2_with (first | ((with_reducible refine gate_dst (N := 1) rfl ?_); refine bx_ 1 23 #[.int .i64 a0_0, .int .i64 a0_1] ?_; intro gb145 hg w7 hbox hb; have BK145 := Aside0.mk hbox; have GE145 := ge_ HB hg; replace HB := hs_ HB hb; clear hb hbox hg; refine blk2_ BK145.out fun hcz8_0 hcz8_1 hfz8_0 hfz8_1 => ?_) | ((with_reducible refine gate_callee (f := 49) rfl ?_); refine gl_ (some 5) Try.func49 #[.int .i64 a0_0, .int .i64 0, .int .i64 3] ?_; (with_reducible refine (stamp_within_int.calls a0_0 0 3 false _ A2.out).mono ?_); rintro e w' ⟨rfl, ⟨nd, rfl⟩⟩; refine ⟨_, rfl, ?_⟩))
   go_ret
   exact ⟨by first | rfl | (simp [errW_none, errW_some] <;> rfl) | (simp [*, errW_none, errW_some] <;> rfl), by repeat (first | (with_reducible first | exact HB.out | apply below_alloc | apply pw_below_drewN | apply below_drew1 | refine below_set ?_ GE145.out) | exact HB.out)⟩
end Go.Proofs.Ytnjeeedndnfglaa.X
end
section
namespace Go.Proofs.Ytnjeeedndnfglaa.X
open Go.RowKit Go.Proofs.YtnjeeedndnfglaaW.PrintWords Go.Proofs.YtnjeeedndnfglaaW.PrintLast Go.Proofs.YtnjeeedndnfglaaW.PrintMore
attribute [local go_sem] max2_int min2_int max_two min_two max_three min_three max_four min_four   -- for this text's walks alone
set_option linter.unusedVariables false
set_option linter.unusedSimpArgs false
def stamp_RightStamp.f (a0_0 : Int) (a0_1 : Int) : Option (Bool) := (stamp_within_int.f a0_0 0 1099511627776).bind fun t149 => (if t149 = true then ((stamp_within_int.f a0_1 0 3).bind fun t150 => (some t150)) else (some false))
set_option maxHeartbeats 40000000 in
set_option maxRecDepth 100000 in
theorem stamp_RightStamp.calls (a0_0 : Int) (a0_1 : Int) (r : Bool) (w : World) (h : stamp_RightStamp.f a0_0 a0_1 = some r) :
 Calls Try.prog 28 #[.agg #[.int .i64 a0_0, .int .i64 a0_1]] w fun e w' => e = .returned (.bool r) ∧ Below w.heap.size w w' := by
 have hu25 := Try.underlying25
 have HB := Aside0.mk (Below.refl w.heap.size w)
 have H : ((stamp_within_int.f a0_0 0 1099511627776).bind fun t149 => (if t149 = true then ((stamp_within_int.f a0_1 0 3).bind fun t150 => (some t150)) else (some false))) = some r := h
 clear h
 obtain ⟨t149, A2, H⟩ := bs_ H
 by_cases c3 : t149 = true
 · subst c3
   rw [if_pos rfl] at H
   obtain ⟨t150, A4, H⟩ := bs_ H
   obtain rfl := Option.some.inj H
   go_enter Try.func28, Try.ntmps28
   go_wp2_with (first | ((with_reducible refine gate_dst (N := 1) rfl ?_); refine bx_ 1 25 #[.int .i64 a0_0, .int .i64 a0_1] ?_; intro gb148 hg w5 hbox hb; have BK148 := Aside0.mk hbox; have GE148 := ge_ HB hg; replace HB := hs_ HB hb; clear hb hbox hg; refine blk2_ BK148.out fun hcz6_0 hcz6_1 hfz6_0 hfz6_1 => ?_) | ((with_reducible refine gate_callee (f := 49) rfl ?_); refine gl_ (some 5) Try.func49 #[.int .i64 a0_0, .int .i64 0, .int .i64 1099511627776] ?_; (with_reducible refine (stamp_within_int.calls a0_0 0 1099511627776 true _ A2.out).mono ?_); rintro e w' ⟨rfl, ⟨nd, rfl⟩⟩; refine ⟨_, rfl, ?_⟩) | (go_at_call 49; (with_reducible refine (stamp_within_int.calls a0_1 0 3 t150 _ A4.out).mono ?_); rintro e w' ⟨rfl, ⟨nd, rfl⟩⟩))
   go_ret
   exact ⟨by first | rfl | (simp [errW_none, errW_some] <;> rfl) | (simp [*, errW_none, errW_some] <;> rfl), by repeat (first | (with_reducible first | exact HB.out | apply below_alloc | apply pw_below_drewN | apply below_drew1 | refine below_set ?_ GE148.out) | exact HB.out)⟩
 · replace c3 := Bool.eq_false_iff.mpr c3
   subst c3
   rw [if_neg (show ¬ (false = true) by decide)] at H
   obtain rfl := Option.some.inj H
   go_enter Try.func28, Try.ntmps28
   go_wp2_with (first | ((with_reducible refine gate_dst (N := 1) rfl ?_); refine bx_ 1 25 #[.int .i64 a0_0, .int .i64 a0_1] ?_; intro gb148 hg w7 hbox hb; have BK148 := Aside0.mk hbox; have GE148 := ge_ HB hg; replace HB := hs_ HB hb; clear hb hbox hg; refine blk2_ BK148.out fun hcz8_0 hcz8_1 hfz8_0 hfz8_1 => ?_) | ((with_reducible refine gate_callee (f := 49) rfl ?_); refine gl_ (some 5) Try.func49 #[.int .i64 a0_0, .int .i64 0, .int .i64 1099511627776] ?_; (with_reducible refine (stamp_within_int.calls a0_0 0 1099511627776 false _ A2.out).mono ?_); rintro e w' ⟨rfl, ⟨nd, rfl⟩⟩; refine ⟨_, rfl, ?_⟩))
   go_ret
   exact ⟨by first | rfl | (simp [errW_none, errW_some] <;> rfl) | (simp [*, errW_none, errW_some] <;> rfl), by repeat (first | (with_reducible first | exact HB.out | apply below_alloc | apply pw_below_drewN | apply below_drew1 | refine below_set ?_ GE148.out) | exact HB.out)⟩
end Go.Proofs.Ytnjeeedndnfglaa.X
end
section
namespace Go.Proofs.Ytnjeeedndnfglaa.X
open Go.RowKit Go.Proofs.YtnjeeedndnfglaaW.PrintWords Go.Proofs.YtnjeeedndnfglaaW.PrintLast Go.Proofs.YtnjeeedndnfglaaW.PrintMore
attribute [local go_sem] max2_int min2_int max_two min_two max_three min_three max_four min_four   -- for this text's walks alone
set_option linter.unusedVariables false
set_option linter.unusedSimpArgs false
def keys_Right.f (a0 : ByteArray) : Option (Bool) := if (a0.size : Int) ≥ 1 then (some (decide ((a0.size : Int) ≤ 8))) else (some false)
set_option maxHeartbeats 40000000 in
set_option maxRecDepth 100000 in
theorem keys_Right.calls (a0 : ByteArray) (r : Bool) (w : World) (h : keys_Right.f a0 = some r) :
 Calls Try.prog 51 #[.string a0] w fun e w' => e = .returned (.bool r) ∧ Drawn0 w w' := by
 have H : (if (a0.size : Int) ≥ 1 then (some (decide ((a0.size : Int) ≤ 8))) else (some false)) = some r := h
 clear h
 by_cases c2 : (a0.size : Int) ≥ 1
 · rw [if_pos c2] at H
   have c2b0 : decide (1 ≤ (a0.size : Int)) = true := decide_eq_true c2
   have c2b1 : decide (1 ≤ a0.size) = true := decide_eq_true (by omega)
   clear c2
   obtain rfl := Option.some.inj H
   go_enter Try.func51, Try.ntmps51
   go_wp2
   go_ret
   exact ⟨by first | rfl | (simp; done) | (simp [*]; done), by repeat (first | exact Drawn0.refl _ | apply Drawn0.step)⟩
 · rw [if_neg c2] at H
   have c2b0 : decide (1 ≤ (a0.size : Int)) = false := decide_eq_false c2
   have c2b1 : decide (1 ≤ a0.size) = false := decide_eq_false (by omega)
   clear c2
   obtain rfl := Option.some.inj H
   go_enter Try.func51, Try.ntmps51
   go_wp2
   go_ret
   exact ⟨by first | rfl | (simp; done) | (simp [*]; done), by repeat (first | exact Drawn0.refl _ | apply Drawn0.step)⟩
end Go.Proofs.Ytnjeeedndnfglaa.X
end
section
namespace Go.Proofs.Ytnjeeedndnfglaa.X
open Go.RowKit Go.Proofs.YtnjeeedndnfglaaW.PrintWords Go.Proofs.YtnjeeedndnfglaaW.PrintLast Go.Proofs.YtnjeeedndnfglaaW.PrintMore
attribute [local go_sem] max2_int min2_int max_two min_two max_three min_three max_four min_four   -- for this text's walks alone
set_option linter.unusedVariables false
set_option linter.unusedSimpArgs false
def keys_Rights.l0 : Nat → List ByteArray → List ByteArray → Int → Int → Option (Bool)
 | 0, _, _, _, _ => none
 | k + 1, x0, x5, x6, x7 => if x7 < x6 then (if 0 ≤ x7 then (if x7 < (x5.length : Int) then ((keys_Right.f (rdOf ByteArray.empty x5 x7)).bind fun t155 => (if t155 = true then (if x7 > 0 then (if 0 ≤ (wrap64 (x7 - 1)) then (if (wrap64 (x7 - 1)) < (x0.length : Int) then (if ((Op.bytesLess ((rdOf ByteArray.empty x0 (wrap64 (x7 - 1))).toList) ((rdOf ByteArray.empty x5 x7).toList)) = true) then (keys_Rights.l0 k x0 x5 x6 (wrap64 (x7 + 1))) else (some false)) else (none)) else (none)) else (keys_Rights.l0 k x0 x5 x6 (wrap64 (x7 + 1)))) else (some false))) else (none)) else (none)) else (some (decide ((x0.length : Int) ≤ 8)))
def keys_Rights.f (k : Nat) (l0 : List ByteArray) : Option (Bool) := keys_Rights.l0 k l0 l0 (l0.length : Int) 0
set_option maxHeartbeats 40000000 in
set_option maxRecDepth 100000 in
theorem keys_Rights.calls (k : Nat) (A0 : Option Addr) (c0 : Nat) (l0 : List ByteArray) (r : Bool) (w : World) (hr0 : Kd.C Kd.string w A0 l0.length l0) (hc0 : l0.length ≤ c0) (h : keys_Rights.f k l0 = some r) :
 Calls Try.prog 31 #[.slice A0 l0.length c0] w fun e w' => e = .returned (.bool r) ∧ Drawn0 w w' := by
 have HR0 := Aside0.mk hr0
 have HC0 := Aside0.mk hc0
 clear hr0 hc0
 have H : (keys_Rights.l0 k l0 l0 (l0.length : Int) 0) = some r := h
 clear h
 have H' := Aside0.mk H
 clear H
 go_enter Try.func31, Try.ntmps31
 go_wp2
 go_loopg [7] k (fun kq v7 w' => ∃ (x7_1 : Int), v7 = .int .i64 x7_1 ∧ Aside0 (keys_Rights.l0 kq l0 l0 (l0.length : Int) x7_1 = some r) ∧ Aside0 (kq ≤ k) ∧ Drawn0 w w')
 case atStart => exact ⟨(0), sm_, H', ⟨Nat.le_refl _⟩, by repeat (first | exact Drawn0.refl _ | apply Drawn0.step)⟩
 case round =>
  clear H'
  obtain ⟨x7_1, rfl, HA, HK1, ⟨m1, rfl⟩⟩ := hrel
  cases gk with
  | zero => exact absurd HA.out (by simp [keys_Rights.l0])
  | succ k1 =>
   have H := HA.out
   clear HA
   simp only [keys_Rights.l0] at H
   by_cases c2 : x7_1 < (l0.length : Int)
   · rw [if_pos c2] at H
     have c2b0 : decide (x7_1 < (l0.length : Int)) = true := decide_eq_true c2
     clear c2
     by_cases c3 : 0 ≤ x7_1
     · rw [if_pos c3] at H
       have c3b0 : decide (0 ≤ x7_1) = true := decide_eq_true c3
       clear c3
       by_cases c4 : x7_1 < (l0.length : Int)
       · rw [if_pos c4] at H
         have c4b0 : decide (x7_1 < (l0.length : Int)) = true := decide_eq_true c4
         clear c4
         obtain ⟨t155, A5, H⟩ := bs_ H
         by_cases c6 : t155 = true
         · subst c6
           rw [if_pos rfl] at H
           by_cases c7 : x7_1 > 0
           · rw [if_pos c7] at H
             have c7b0 : decide (0 < x7_1) = true := decide_eq_true c7
             clear c7
             obtain ⟨ji8, hji8⟩ : ∃ j_ : Int, (wrap64 (x7_1 - 1)) = j_ := ⟨_, rfl⟩
             replace H : (if 0 ≤ (ji8) then (if (ji8) < (l0.length : Int) then (if ((Op.bytesLess ((rdOf ByteArray.empty l0 (ji8)).toList) ((rdOf ByteArray.empty l0 x7_1).toList)) = true) then (keys_Rights.l0 k1 l0 l0 (l0.length : Int) (wrap64 (x7_1 + 1))) else (some false)) else (none)) else (none)) = some r := by first | (rw [hji8] at H; exact H) | (simp only [hji8] at H ⊢; exact H)
             (try rw [hji8] at A5)
             have hji8w : (IntKind.i64.wrap (x7_1 - 1)) = ji8 := (i64_w _).trans hji8
             by_cases c9 : 0 ≤ (ji8)
             · rw [if_pos c9] at H
               have c9b0 : decide (0 ≤ (ji8)) = true := decide_eq_true c9
               clear c9
               by_cases c10 : (ji8) < (l0.length : Int)
               · rw [if_pos c10] at H
                 have c10b0 : decide ((ji8) < (l0.length : Int)) = true := decide_eq_true c10
                 clear c10
                 by_cases c11 : ((Op.bytesLess ((rdOf ByteArray.empty l0 (ji8)).toList) ((rdOf ByteArray.empty l0 x7_1).toList)) = true)
                 · rw [if_pos c11] at H
                   have c11b0 : (Op.bytesLess ((rdOf ByteArray.empty l0 (ji8)).toList) ((rdOf ByteArray.empty l0 x7_1).toList)) = true := c11
                   clear c11
                   have H' := Aside0.mk H
                   clear H
                   have p154 : 0 ≤ (x7_1 : Int) := of_decide_eq_true (by first | (with_reducible assumption) | assumption)
                   have q154 : x7_1 < (l0.length : Int) := of_decide_eq_true (by first | (with_reducible assumption) | assumption)
                   obtain ⟨ad154, e154, hx154_0⟩ := Kd.at_string HR0.out x7_1 p154 q154
                   cases e154
                   replace p154 := eq_true p154
                   replace q154 := eq_true q154
                   go_wp2_with (first | ((with_reducible refine gate_callee (f := 51) rfl ?_); refine gl_ (some 13) Try.func51 #[.string (rdOf ByteArray.empty l0 x7_1)] ?_; (with_reducible refine (keys_Right.calls (rdOf ByteArray.empty l0 x7_1) true _ A5.out).mono ?_); rintro e w' ⟨rfl, ⟨nd, rfl⟩⟩; refine ⟨_, rfl, ?_⟩; have p156 : 0 ≤ ((ji8) : Int) := of_decide_eq_true (by first | (with_reducible assumption) | assumption); have q156 : (ji8) < (l0.length : Int) := of_decide_eq_true (by first | (with_reducible assumption) | assumption); obtain ⟨ad156, e156, hx156_0⟩ := Kd.at_string HR0.out (ji8) p156 q156; obtain rfl : ad154 = ad156 := (by injection e156); replace p156 := eq_true p156; replace q156 := eq_true q156))
                   go_roundg k1
                   case measure => have := HK1.out; omega
                   case rel => exact ⟨(wrap64 (x7_1 + 1)), sm_, H', ⟨by have := HK1.out; omega⟩, by repeat (first | exact Drawn0.refl _ | apply Drawn0.step)⟩
                 · rw [if_neg c11] at H
                   have c11b0 : (Op.bytesLess ((rdOf ByteArray.empty l0 (ji8)).toList) ((rdOf ByteArray.empty l0 x7_1).toList)) = false := by simpa using c11
                   clear c11
                   obtain rfl := Option.some.inj H
                   have p154 : 0 ≤ (x7_1 : Int) := of_decide_eq_true (by first | (with_reducible assumption) | assumption)
                   have q154 : x7_1 < (l0.length : Int) := of_decide_eq_true (by first | (with_reducible assumption) | assumption)
                   obtain ⟨ad154, e154, hx154_0⟩ := Kd.at_string HR0.out x7_1 p154 q154
                   cases e154
                   replace p154 := eq_true p154
                   replace q154 := eq_true q154
                   go_wp2_with (first | ((with_reducible refine gate_callee (f := 51) rfl ?_); refine gl_ (some 13) Try.func51 #[.string (rdOf ByteArray.empty l0 x7_1)] ?_; (with_reducible refine (keys_Right.calls (rdOf ByteArray.empty l0 x7_1) true _ A5.out).mono ?_); rintro e w' ⟨rfl, ⟨nd, rfl⟩⟩; refine ⟨_, rfl, ?_⟩; have p156 : 0 ≤ ((ji8) : Int) := of_decide_eq_true (by first | (with_reducible assumption) | assumption); have q156 : (ji8) < (l0.length : Int) := of_decide_eq_true (by first | (with_reducible assumption) | assumption); obtain ⟨ad156, e156, hx156_0⟩ := Kd.at_string HR0.out (ji8) p156 q156; obtain rfl : ad154 = ad156 := (by injection e156); replace p156 := eq_true p156; replace q156 := eq_true q156))
                   go_ret
                   exact ⟨by first | rfl | (simp; done) | (simp only [← hji8] <;> (first | rfl | (simp; done))) | (simp [*]; done) | (subst_vars; simp only [mx_eq, mn_eq]; done), by repeat (first | exact Drawn0.refl _ | apply Drawn0.step)⟩
               · rw [if_neg c10] at H
                 exact absurd H (by simp)
             · rw [if_neg c9] at H
               exact absurd H (by simp)
           · rw [if_neg c7] at H
             have c7b0 : decide (0 < x7_1) = false := decide_eq_false c7
             clear c7
             have H' := Aside0.mk H
             clear H
             have p154 : 0 ≤ (x7_1 : Int) := of_decide_eq_true (by first | (with_reducible assumption) | assumption)
             have q154 : x7_1 < (l0.length : Int) := of_decide_eq_true (by first | (with_reducible assumption) | assumption)
             obtain ⟨ad154, e154, hx154_0⟩ := Kd.at_string HR0.out x7_1 p154 q154
             cases e154
             replace p154 := eq_true p154
             replace q154 := eq_true q154
             go_wp2_with (first | ((with_reducible refine gate_callee (f := 51) rfl ?_); refine gl_ (some 13) Try.func51 #[.string (rdOf ByteArray.empty l0 x7_1)] ?_; (with_reducible refine (keys_Right.calls (rdOf ByteArray.empty l0 x7_1) true _ A5.out).mono ?_); rintro e w' ⟨rfl, ⟨nd, rfl⟩⟩; refine ⟨_, rfl, ?_⟩))
             go_roundg k1
             case measure => have := HK1.out; omega
             case rel => exact ⟨(wrap64 (x7_1 + 1)), sm_, H', ⟨by have := HK1.out; omega⟩, by repeat (first | exact Drawn0.refl _ | apply Drawn0.step)⟩
         · replace c6 := Bool.eq_false_iff.mpr c6
           subst c6
           rw [if_neg (show ¬ (false = true) by decide)] at H
           obtain rfl := Option.some.inj H
           have p154 : 0 ≤ (x7_1 : Int) := of_decide_eq_true (by first | (with_reducible assumption) | assumption)
           have q154 : x7_1 < (l0.length : Int) := of_decide_eq_true (by first | (with_reducible assumption) | assumption)
           obtain ⟨ad154, e154, hx154_0⟩ := Kd.at_string HR0.out x7_1 p154 q154
           cases e154
           replace p154 := eq_true p154
           replace q154 := eq_true q154
           go_wp2_with (first | ((with_reducible refine gate_callee (f := 51) rfl ?_); refine gl_ (some 13) Try.func51 #[.string (rdOf ByteArray.empty l0 x7_1)] ?_; (with_reducible refine (keys_Right.calls (rdOf ByteArray.empty l0 x7_1) false _ A5.out).mono ?_); rintro e w' ⟨rfl, ⟨nd, rfl⟩⟩; refine ⟨_, rfl, ?_⟩))
           go_ret
           exact ⟨by first | rfl | (simp; done) | (simp [*]; done), by repeat (first | exact Drawn0.refl _ | apply Drawn0.step)⟩
       · rw [if_neg c4] at H
         exact absurd H (by simp)
     · rw [if_neg c3] at H
       exact absurd H (by simp)
   · rw [if_neg c2] at H
     have c2b0 : decide (x7_1 < (l0.length : Int)) = false := decide_eq_false c2
     clear c2
     obtain rfl := Option.some.inj H
     go_wp2
     go_ret
     exact ⟨by first | rfl | (simp; done) | (simp [*]; done), by repeat (first | exact Drawn0.refl _ | apply Drawn0.step)⟩
end Go.Proofs.Ytnjeeedndnfglaa.X
end
section
namespace Go.Proofs.Ytnjeeedndnfglaa.X
open Go.RowKit Go.Proofs.YtnjeeedndnfglaaW.PrintWords Go.Proofs.YtnjeeedndnfglaaW.PrintLast Go.Proofs.YtnjeeedndnfglaaW.PrintMore
def CapC (w : World) (g i : Nat) (x : Value) : Prop := ∃ (cs : Array Value) (t : TypeId), w.heap[g]? = some (.cells cs t (0, 0)) ∧ cs[i]? = some x
theorem CapC.mk {w : World} {g i : Nat} {x : Value} {cs : Array Value} {t : TypeId} (h : w.heap[g]? = some (.cells cs t (0, 0))) (hx : cs[i]? = some x) : CapC w g i x := ⟨cs, t, h, hx⟩
theorem CapC.cell {w : World} {g i : Nat} {x : Value} (h : CapC w g i x) : w.cell? ⟨g, i, none⟩ = some x := by
  obtain ⟨cs, t, h, hx⟩ := h
  exact (blk_cell h i).trans hx
theorem CapC.frozen {w : World} {g i : Nat} {x : Value} (h : CapC w g i x) : w.frozen? ⟨g, i, none⟩ = false := by
  obtain ⟨cs, t, h, hx⟩ := h
  exact blk_frozen h i
theorem CapC.below {w w1 : World} {g i : Nat} {x : Value} (h : CapC w g i x) (hb : Below w.heap.size w w1) : CapC w1 g i x := by
  obtain ⟨cs, t, h, hx⟩ := h
  exact ⟨cs, t, blk_below h hb, hx⟩
end Go.Proofs.Ytnjeeedndnfglaa.X
end
section
namespace Go.Proofs.Ytnjeeedndnfglaa.X
open Go.RowKit Go.Proofs.YtnjeeedndnfglaaW.PrintWords Go.Proofs.YtnjeeedndnfglaaW.PrintLast Go.Proofs.YtnjeeedndnfglaaW.PrintMore
attribute [local go_sem] max2_int min2_int max_two min_two max_three min_three max_four min_four   -- for this text's walks alone
set_option linter.unusedVariables false
set_option linter.unusedSimpArgs false
def stamp_order.j0 : Nat → Int → Int → Int → Int → Bool → Option (Int)
 | 0, _, _, _, _, _ => none
 | k + 1, x0, x1, x2, x3, x9 => if x9 = true then (some (-1)) else (if x0 = x2 then (if x1 = x3 then (some 0) else (some 1)) else (some 1))
def stamp_order.f (k : Nat) (a0 : Int) (a1 : Int) (a2 : Int) (a3 : Int) : Option (Int) := if a0 < a2 then (stamp_order.j0 k a0 a1 a2 a3 true) else (if a0 = a2 then (stamp_order.j0 k a0 a1 a2 a3 (decide (a1 < a3))) else (stamp_order.j0 k a0 a1 a2 a3 false))
set_option maxHeartbeats 40000000 in
set_option maxRecDepth 100000 in
theorem stamp_order.calls (k : Nat) (a0 : Int) (a1 : Int) (a2 : Int) (a3 : Int) (r : Int) (w : World) (h : stamp_order.f k a0 a1 a2 a3 = some r) :
 Calls Try.prog 50 #[.int .i64 a0, .int .i64 a1, .int .i64 a2, .int .i64 a3] w fun e w' => e = .returned (.int .i64 r) ∧ Drawn0 w w' := by
 have H : (if a0 < a2 then (stamp_order.j0 k a0 a1 a2 a3 true) else (if a0 = a2 then (stamp_order.j0 k a0 a1 a2 a3 (decide (a1 < a3))) else (stamp_order.j0 k a0 a1 a2 a3 false))) = some r := h
 clear h
 have HC5 := Aside0.mk H
 clear H
 go_enter Try.func50, Try.ntmps50
 go_upto_region 1 with (fail)
 go_cut [9] (fun v9 wc => ∃ (kq : Nat) (x9_4 : Bool), v9 = .bool x9_4 ∧ Aside0 (stamp_order.j0 kq a0 a1 a2 a3 x9_4 = some r) ∧ Aside0 (kq ≤ k) ∧ Drawn0 w wc)
 case first =>
  have H := HC5.out
  clear HC5
  by_cases c6 : a0 < a2
  · rw [if_pos c6] at H
    have c6b0 : decide (a0 < a2) = true := decide_eq_true c6
    clear c6
    (first | rw [c6b0] | (simp only [i64_w, i32_w]; rw [c6b0]) | skip)
    have H' := Aside0.mk H
    clear H
    go_wp2
    go_meet
    case rel => exact ⟨_, (true), sm_, H', ⟨by first | omega | exact Nat.le_refl _⟩, by repeat (first | exact Drawn0.refl _ | apply Drawn0.step)⟩
  · rw [if_neg c6] at H
    have c6b0 : decide (a0 < a2) = false := decide_eq_false c6
    clear c6
    (first | rw [c6b0] | (simp only [i64_w, i32_w]; rw [c6b0]) | skip)
    by_cases c7 : a0 = a2
    · rw [if_pos c7] at H
      have c7b0 : (a0 == a2) = true := beq_iff_eq.mpr c7
      have c7b1 : (a0 != a2) = false := bne_eq_false_iff_eq.mpr c7
      clear c7
      have H' := Aside0.mk H
      clear H
      go_wp2
      go_meet
      case rel => exact ⟨_, (decide (a1 < a3)), sm_, H', ⟨by first | omega | exact Nat.le_refl _⟩, by repeat (first | exact Drawn0.refl _ | apply Drawn0.step)⟩
    · rw [if_neg c7] at H
      have c7b0 : (a0 == a2) = false := beq_eq_false_iff_ne.mpr c7
      have c7b1 : (a0 != a2) = true := bne_iff_ne.mpr c7
      have H' := Aside0.mk H
      clear H
      go_wp2
      go_meet
      case rel => exact ⟨_, (false), sm_, H', ⟨by first | omega | exact Nat.le_refl _⟩, by repeat (first | exact Drawn0.refl _ | apply Drawn0.step)⟩
 case rest =>
  clear HC5
  try clear p2
  try clear c5
  try clear c6
  try clear c6b0
  try clear c7
  try clear c7b0
  try clear c7b1
  obtain ⟨kq, x9_4, rfl, HA, HJ4, ⟨mc4, rfl⟩⟩ := hcut
  cases kq with
  | zero => exact absurd HA.out (by simp [stamp_order.j0])
  | succ kj4 =>
   have H := HA.out
   clear HA
   simp only [stamp_order.j0] at H
   by_cases c8 : x9_4 = true
   · subst c8
     rw [if_pos rfl] at H
     obtain rfl := Option.some.inj H
     go_wp2
     go_ret
     exact ⟨by first | rfl | (simp; done) | (simp [*]; done), by repeat (first | exact Drawn0.refl _ | apply Drawn0.step)⟩
   · replace c8 := Bool.eq_false_iff.mpr c8
     subst c8
     rw [if_neg (show ¬ (false = true) by decide)] at H
     by_cases c9 : a0 = a2
     · rw [if_pos c9] at H
       have c9b0 : (a0 == a2) = true := beq_iff_eq.mpr c9
       have c9b1 : (a0 != a2) = false := bne_eq_false_iff_eq.mpr c9
       clear c9
       by_cases c10 : a1 = a3
       · rw [if_pos c10] at H
         have c10b0 : (a1 == a3) = true := beq_iff_eq.mpr c10
         have c10b1 : (a1 != a3) = false := bne_eq_false_iff_eq.mpr c10
         clear c10
         obtain rfl := Option.some.inj H
         go_wp2
         go_ret
         exact ⟨by first | rfl | (simp; done) | (simp [*]; done), by repeat (first | exact Drawn0.refl _ | apply Drawn0.step)⟩
       · rw [if_neg c10] at H
         have c10b0 : (a1 == a3) = false := beq_eq_false_iff_ne.mpr c10
         have c10b1 : (a1 != a3) = true := bne_iff_ne.mpr c10
         obtain rfl := Option.some.inj H
         go_wp2
         go_ret
         exact ⟨by first | rfl | (simp; done) | (simp [*]; done), by repeat (first | exact Drawn0.refl _ | apply Drawn0.step)⟩
     · rw [if_neg c9] at H
       have c9b0 : (a0 == a2) = false := beq_eq_false_iff_ne.mpr c9
       have c9b1 : (a0 != a2) = true := bne_iff_ne.mpr c9
       obtain rfl := Option.some.inj H
       go_wp2
       go_ret
       exact ⟨by first | rfl | (simp; done) | (simp [*]; done), by repeat (first | exact Drawn0.refl _ | apply Drawn0.step)⟩
end Go.Proofs.Ytnjeeedndnfglaa.X
end
section
namespace Go.Proofs.Ytnjeeedndnfglaa.X
open Go.RowKit Go.Proofs.YtnjeeedndnfglaaW.PrintWords Go.Proofs.YtnjeeedndnfglaaW.PrintLast Go.Proofs.YtnjeeedndnfglaaW.PrintMore
attribute [local go_sem] max2_int min2_int max_two min_two max_three min_three max_four min_four   -- for this text's walks alone
set_option linter.unusedVariables false
set_option linter.unusedSimpArgs false
def stamp_CompareStamps.f (k : Nat) (a0_0 : Int) (a0_1 : Int) (a1_0 : Int) (a1_1 : Int) : Option (Int) := (stamp_order.f k a0_0 a0_1 a1_0 a1_1).bind fun t153 => (some t153)
set_option maxHeartbeats 40000000 in
set_option maxRecDepth 100000 in
theorem stamp_CompareStamps.calls (k : Nat) (a0_0 : Int) (a0_1 : Int) (a1_0 : Int) (a1_1 : Int) (r : Int) (w : World) (h : stamp_CompareStamps.f k a0_0 a0_1 a1_0 a1_1 = some r) :
 Calls Try.prog 30 #[.agg #[.int .i64 a0_0, .int .i64 a0_1], .agg #[.int .i64 a1_0, .int .i64 a1_1]] w fun e w' => e = .returned (.int .i64 r) ∧ Below w.heap.size w w' := by
 have hu25 := Try.underlying25
 have HB := Aside0.mk (Below.refl w.heap.size w)
 have H : ((stamp_order.f k a0_0 a0_1 a1_0 a1_1).bind fun t153 => (some t153)) = some r := h
 clear h
 obtain ⟨t153, A3, H⟩ := bs_ H
 obtain rfl := Option.some.inj H
 go_enter Try.func30, Try.ntmps30
 go_wp2_with (first | ((with_reducible refine gate_dst (N := 2) rfl ?_); refine bx_ 2 25 #[.int .i64 a0_0, .int .i64 a0_1] ?_; intro gb151 hg w4 hbox hb; have BK151 := Aside0.mk hbox; have GE151 := ge_ HB hg; replace HB := hs_ HB hb; clear hb hbox hg) | ((with_reducible refine gate_dst (N := 3) rfl ?_); refine bx_ 3 25 #[.int .i64 a1_0, .int .i64 a1_1] ?_; intro gb152 hg w5 hbox hb; have BK152 := Aside0.mk hbox; have GE152 := ge_ HB hg; have NB151_152 := na_ hg BK151; replace BK151 := bb_ BK151 hb; replace HB := hs_ HB hb; clear hb hbox hg; refine ne2_ NB151_152 fun hnb6 hnc6 => ?_; refine blk2_ BK151.out fun hcz7_0 hcz7_1 hfz7_0 hfz7_1 => ?_; refine blk2_ BK152.out fun hcz8_0 hcz8_1 hfz8_0 hfz8_1 => ?_) | ((with_reducible refine gate_callee (f := 50) rfl ?_); refine gl_ (some 13) Try.func50 #[.int .i64 a0_0, .int .i64 a0_1, .int .i64 a1_0, .int .i64 a1_1] ?_; (with_reducible refine (stamp_order.calls k a0_0 a0_1 a1_0 a1_1 t153 _ A3.out).mono ?_); rintro e w' ⟨rfl, ⟨nd, rfl⟩⟩; refine ⟨_, rfl, ?_⟩))
 go_ret
 exact ⟨by first | rfl | (simp [errW_none, errW_some] <;> rfl) | (simp [*, errW_none, errW_some] <;> rfl), by repeat (first | (with_reducible first | exact HB.out | apply below_alloc | apply pw_below_drewN | apply below_drew1 | refine below_set ?_ GE151.out | refine below_set ?_ GE152.out) | exact HB.out)⟩
end Go.Proofs.Ytnjeeedndnfglaa.X
end
section
namespace Go.Proofs.Ytnjeeedndnfglaa.X
open Go.RowKit Go.Proofs.YtnjeeedndnfglaaW.PrintWords Go.Proofs.YtnjeeedndnfglaaW.PrintLast Go.Proofs.YtnjeeedndnfglaaW.PrintMore
set_option linter.unusedVariables false
set_option linter.unusedSimpArgs false
def ordI (a b c d : Int) : Int := if a < c ∨ (a = c ∧ b < d) then -1 else if a = c ∧ b = d then 0 else 1
theorem stamp_order_val (a b c d : Int) : stamp_order.f 1 a b c d = some (ordI a b c d) := by
  unfold stamp_order.f stamp_order.j0 ordI
  by_cases h1 : a < c
  · simp [h1]
  · by_cases h2 : a = c
    · by_cases h3 : b < d
      · simp [h1, h2, h3]
      · subst h2; by_cases h4 : b = d <;> simp [h1, h3, h4]
    · simp [h1, h2]
theorem stamp_CompareStamps_val (a b c d : Int) : stamp_CompareStamps.f 1 a b c d = some (ordI a b c d) := by
  unfold stamp_CompareStamps.f
  rw [stamp_order_val]; rfl
def stampB (t c : Int) : Bool := decide (0 ≤ t ∧ t ≤ 1099511627776) && decide (0 ≤ c ∧ c ≤ 3)
theorem stamp_RightStamp_val (t c : Int) : stamp_RightStamp.f t c = some (stampB t c) := by
  unfold stamp_RightStamp.f stamp_within_int.f stampB
  by_cases h1 : t ≥ 0 <;> by_cases h2 : t ≤ 1099511627776 <;> by_cases h3 : c ≥ 0 <;> by_cases h4 : c ≤ 3 <;> simp [h1, h2, h3, h4] <;> omega
def command_Right_1.f (a0_0 : ByteArray) (a0_1 : Int) (a0_2 : Int) (a1 : Int) (a2 : Int) : Option (Bool) := some (stampB a0_1 a0_2 && decide (ordI a0_1 a0_2 a1 a2 < 0))
set_option maxRecDepth 100000 in
set_option maxHeartbeats 2000000 in
theorem command_Right_1.calls {g : Nat} (a0_0 : ByteArray) (a0_1 : Int) (a0_2 : Int) (a1 : Int) (a2 : Int) (r : Bool) (w : World)
    (hg3 : CapC w g 3 (.int .i64 a1)) (hg4 : CapC w g 4 (.int .i64 a2)) (h : command_Right_1.f a0_0 a0_1 a0_2 a1 a2 = some r) :
    Calls Try.prog 29 #[.agg #[.string a0_0, .int .i64 a0_1, .int .i64 a0_2], .pointer (some ⟨g, 0, none⟩)] w fun e w' => e = .returned (.bool r) ∧ Below w.heap.size w w' := by
  have hu1 := Try.underlying25
  have hu2 := Try.underlying38
  have hu3 := Try.underlying29
  have HB := Aside0.mk (Below.refl w.heap.size w)
  have HG := Aside0.mk (And.intro hg3 hg4)
  have A1 := Aside0.mk (stamp_RightStamp_val a0_1 a0_2)
  have A2 := Aside0.mk (stamp_CompareStamps_val a0_1 a0_2 a1 a2)
  obtain rfl := Option.some.inj h
  clear h hg3 hg4
  go_enter Try.func29, Try.ntmps29
  go_wp2_with (first
    | ((with_reducible refine gate_dst (N := 2) rfl ?_); refine box_event ?hg (N := 2) ?hd (cs := #[.string a0_0, .int .i64 a0_1, .int .i64 a0_2]) (t := 38) ?hr ?_; (case hd => rfl); (case hg => rfl); (case hr => first | (go_simp; done) | (go_simp; rfl)); intro gb hg w2 hbox hb
       have HG2 := Aside0.mk (And.intro (HG.out.1.below hb) (HG.out.2.below hb)); have HB2 := Aside0.mk (below_step HB.out hb); have BK := Aside0.mk hbox
       clear HG HB hb hbox hg
       have c1 : w2.cell? ⟨gb, 1, none⟩ = some (.int .i64 a0_1) := (blk_cell BK.out 1).trans rfl; have c2 : w2.cell? ⟨gb, 2, none⟩ = some (.int .i64 a0_2) := (blk_cell BK.out 2).trans rfl
       have f1 := blk_frozen BK.out 1; have f2 := blk_frozen BK.out 2)
    | (go_at_call 28; (with_reducible refine (stamp_RightStamp.calls a0_1 a0_2 (stampB a0_1 a0_2) _ A1.out).mono ?_); rintro e w3 ⟨rfl, hb⟩
       have HG3 := Aside0.mk (And.intro (HG2.out.1.below hb) (HG2.out.2.below hb)); have HB3 := Aside0.mk (below_step HB2.out hb); have BK3 := Aside0.mk (blk_below BK.out hb)
       have d1 : w3.cell? ⟨gb, 1, none⟩ = some (.int .i64 a0_1) := (blk_cell BK3.out 1).trans rfl; have d2 : w3.cell? ⟨gb, 2, none⟩ = some (.int .i64 a0_2) := (blk_cell BK3.out 2).trans rfl
       have d3 : w3.cell? ⟨g, 3, none⟩ = some (.int .i64 a1) := HG3.out.1.cell; have d4 : w3.cell? ⟨g, 4, none⟩ = some (.int .i64 a2) := HG3.out.2.cell
       have f3 := blk_frozen BK3.out 1; have f4 := blk_frozen BK3.out 2; have f5 := HG3.out.1.frozen; have f6 := HG3.out.2.frozen
       clear HG2 HB2 BK hb c1 c2 f1 f2)
    | (go_at_call 30; (with_reducible refine (stamp_CompareStamps.calls 1 a0_1 a0_2 a1 a2 (ordI a0_1 a0_2 a1 a2) _ A2.out).mono ?_); rintro e w4 ⟨rfl, hb⟩
       have HB4 := Aside0.mk (below_step HB3.out hb)
       clear hb))
  all_goals (go_ret)
  all_goals (refine ⟨?_, by first | exact HB4.out | exact HB3.out⟩; first | rfl | (simp [*]; done) | (simp [*]; rfl))
end Go.Proofs.Ytnjeeedndnfglaa.X
end
section
namespace Go.Proofs.Ytnjeeedndnfglaa.X
open Go.RowKit Go.Proofs.YtnjeeedndnfglaaW.PrintWords Go.Proofs.YtnjeeedndnfglaaW.PrintLast Go.Proofs.YtnjeeedndnfglaaW.PrintMore
attribute [local go_sem] max2_int min2_int max_two min_two max_three min_three max_four min_four   -- for this text's walks alone
set_option linter.unusedVariables false
set_option linter.unusedSimpArgs false
mutual
def command_Right.j0 : Nat → Int → Int → Int → Int → Int → Int → List (S38) → List (S40) → Bool → Option (Bool)
 | 0, _, _, _, _, _, _, _, _, _ => none
 | k + 1, x158000, x158001, x158002, x158003, x158004, x158005, x158006, x158007, x158008 => (stamp_RightTxn.f x158001 x158002).bind fun t159 => (if t159 = true then ((stamp_RightStamp.f x158003 x158004).bind fun t160 => (if t160 = true then (if x158003 < 1 then (command_Right.j1 k true x158000 x158001 x158002 x158003 x158004 x158005 x158006 x158007 x158008) else (if x158004 = x158001 then (if x158005 < 1 then (command_Right.j1 k true x158000 x158001 x158002 x158003 x158004 x158005 x158006 x158007 x158008) else (if x158005 > 15 then (command_Right.j1 k true x158000 x158001 x158002 x158003 x158004 x158005 x158006 x158007 x158008) else (if (wrap64 ((x158006.length : Int) + (x158007.length : Int))) = 0 then (command_Right.j1 k true x158000 x158001 x158002 x158003 x158004 x158005 x158006 x158007 x158008) else (if x158008 = true then (command_Right.j1 k (x158000 == 1) x158000 x158001 x158002 x158003 x158004 x158005 x158006 x158007 x158008) else (command_Right.j1 k false x158000 x158001 x158002 x158003 x158004 x158005 x158006 x158007 x158008))))) else (command_Right.j1 k true x158000 x158001 x158002 x158003 x158004 x158005 x158006 x158007 x158008))) else (command_Right.j1 k true x158000 x158001 x158002 x158003 x158004 x158005 x158006 x158007 x158008))) else (command_Right.j1 k true x158000 x158001 x158002 x158003 x158004 x158005 x158006 x158007 x158008))
def command_Right.j1 : Nat → Bool → Int → Int → Int → Int → Int → Int → List (S38) → List (S40) → Bool → Option (Bool)
 | 0, _, _, _, _, _, _, _, _, _, _ => none
 | k + 1, x71, x158000, x158001, x158002, x158003, x158004, x158005, x158006, x158007, x158008 => if x71 = true then (some false) else (command_Right.l0 k x158006 (x158006.length : Int) 0 x158000 x158001 x158002 x158003 x158004 x158005 x158006 x158007 x158008)
def command_Right.l0 : Nat → List (S38) → Int → Int → Int → Int → Int → Int → Int → Int → List (S38) → List (S40) → Bool → Option (Bool)
 | 0, _, _, _, _, _, _, _, _, _, _, _, _ => none
 | k + 1, x74, x75, x76, x158000, x158001, x158002, x158003, x158004, x158005, x158006, x158007, x158008 => if x76 < x75 then (if 0 ≤ x76 then (if x76 < (x74.length : Int) then ((command_Right_1.f ((rd_T38 x74 x76).f0) ((rd_T38 x74 x76).f1.f0) ((rd_T38 x74 x76).f1.f1) x158003 x158004).bind fun t163 => (if t163 = true then (command_Right.l0 k x74 x75 (wrap64 (x76 + 1)) x158000 x158001 x158002 x158003 x158004 x158005 x158006 x158007 x158008) else (some false))) else (none)) else (none)) else (command_Right.l1 k x158007 (x158007.length : Int) 0 x158000 x158001 x158002 x158003 x158004 x158005 x158006 x158007 x158008)
def command_Right.l1 : Nat → List (S40) → Int → Int → Int → Int → Int → Int → Int → Int → List (S38) → List (S40) → Bool → Option (Bool)
 | 0, _, _, _, _, _, _, _, _, _, _, _, _ => none
 | k + 1, x86, x87, x88, x158000, x158001, x158002, x158003, x158004, x158005, x158006, x158007, x158008 => if x88 < x87 then (if 0 ≤ x88 then (if x88 < (x86.length : Int) then (if (((rd_T40 x86 x88).f1).size : Int) > 8 then (some false) else (command_Right.l1 k x86 x87 (wrap64 (x88 + 1)) x158000 x158001 x158002 x158003 x158004 x158005 x158006 x158007 x158008)) else (none)) else (none)) else ((command_read.f k x158000 x158001 x158002 x158003 x158004 x158005 x158006 x158007 x158008).bind fun t166 => ((keys_Rights.f k t166).bind fun t169 => (if t169 = true then ((command_written.f k x158000 x158001 x158002 x158003 x158004 x158005 x158006 x158007 x158008).bind fun t170 => ((keys_Rights.f k t170).bind fun t173 => (some t173))) else (some false))))
end
def command_Right.f (k : Nat) (a0_0 : Int) (a0_1 : Int) (a0_2 : Int) (a0_3 : Int) (a0_4 : Int) (a0_5 : Int) (l0_6 : List (S38)) (l0_7 : List (S40)) (a0_8 : Bool) : Option (Bool) := if a0_0 = 0 then ((command_Same.f k a0_0 a0_1 a0_2 a0_3 a0_4 a0_5 l0_6 l0_7 a0_8 0 0 0 0 0 0 ([] : List (S38)) ([] : List (S40)) false).bind fun t158 => (some t158)) else (if a0_0 = 1 then (command_Right.j0 k a0_0 a0_1 a0_2 a0_3 a0_4 a0_5 l0_6 l0_7 a0_8) else (if a0_0 = 2 then (command_Right.j0 k a0_0 a0_1 a0_2 a0_3 a0_4 a0_5 l0_6 l0_7 a0_8) else (some false)))
set_option maxHeartbeats 40000000 in
set_option maxRecDepth 100000 in
theorem command_Right.calls (k : Nat) (a0_0 : Int) (a0_1 : Int) (a0_2 : Int) (a0_3 : Int) (a0_4 : Int) (a0_5 : Int) (A0_6 : Option Addr) (c0_6 : Nat) (l0_6 : List (S38)) (A0_7 : Option Addr) (c0_7 : Nat) (l0_7 : List (S40)) (a0_8 : Bool) (r : Bool) (w : World) (hr0_6 : Kd.C k38 w A0_6 l0_6.length l0_6) (hc0_6 : l0_6.length ≤ c0_6) (hr0_7 : Kd.C k40 w A0_7 l0_7.length l0_7) (hc0_7 : l0_7.length ≤ c0_7) (h : command_Right.f k a0_0 a0_1 a0_2 a0_3 a0_4 a0_5 l0_6 l0_7 a0_8 = some r) :
 Calls Try.prog 14 #[.agg #[.int .i64 a0_0, .int .i64 a0_1, .int .i64 a0_2, .int .i64 a0_3, .int .i64 a0_4, .int .i64 a0_5, .slice A0_6 l0_6.length c0_6, .slice A0_7 l0_7.length c0_7, .bool a0_8]] w fun e w' => e = .returned (.bool r) ∧ Below w.heap.size w w' := by
 have hu29 := Try.underlying29
 have hu23 := Try.underlying23
 have hu25 := Try.underlying25
 have hu38 := Try.underlying38
 have hu40 := Try.underlying40
 have HR0_6 := Aside0.mk hr0_6
 have HC0_6 := Aside0.mk hc0_6
 clear hr0_6 hc0_6
 have HR0_7 := Aside0.mk hr0_7
 have HC0_7 := Aside0.mk hc0_7
 clear hr0_7 hc0_7
 have HB := Aside0.mk (Below.refl w.heap.size w)
 have H : (if a0_0 = 0 then ((command_Same.f k a0_0 a0_1 a0_2 a0_3 a0_4 a0_5 l0_6 l0_7 a0_8 0 0 0 0 0 0 ([] : List (S38)) ([] : List (S40)) false).bind fun t158 => (some t158)) else (if a0_0 = 1 then (command_Right.j0 k a0_0 a0_1 a0_2 a0_3 a0_4 a0_5 l0_6 l0_7 a0_8) else (if a0_0 = 2 then (command_Right.j0 k a0_0 a0_1 a0_2 a0_3 a0_4 a0_5 l0_6 l0_7 a0_8) else (some false)))) = some r := h
 clear h
 have HC2 := Aside0.mk H
 clear H
 go_enter Try.func14, Try.ntmps14
 go_upto_block 0 with (first | ((with_reducible refine gate_dst (N := 1) rfl ?_); (try (refine gate_guard (by rfl) ?_; dsimp only)); refine bx_ 1 29 #[.int .i64 a0_0, .int .i64 a0_1, .int .i64 a0_2, .int .i64 a0_3, .int .i64 a0_4, .int .i64 a0_5, .slice A0_6 l0_6.length c0_6, .slice A0_7 l0_7.length c0_7, .bool a0_8] ?_; intro gb157 hg w3 hbox hb; have BK157 := Aside0.mk hbox; have GE157 := ge_ HB hg; replace HB := hs_ HB hb; clear hb hbox hg; refine blk9_ BK157.out fun hcz4_0 hcz4_1 hcz4_2 hcz4_3 hcz4_4 hcz4_5 hcz4_6 hcz4_7 hcz4_8 hfz4_0 hfz4_1 hfz4_2 hfz4_3 hfz4_4 hfz4_5 hfz4_6 hfz4_7 hfz4_8 => ?_))
 (try simp only [Act.put, List.setIfInBounds_toArray, List.set_cons_zero, List.set_cons_succ])
 go_cut [] (fun wc => ∃ (kq : Nat), Aside0 (command_Right.j0 kq a0_0 a0_1 a0_2 a0_3 a0_4 a0_5 l0_6 l0_7 a0_8 = some r) ∧ Aside0 (kq ≤ k) ∧ Aside0 (wc.heap[gb157]? = some (.cells #[.int .i64 a0_0, .int .i64 a0_1, .int .i64 a0_2, .int .i64 a0_3, .int .i64 a0_4, .int .i64 a0_5, (.slice A0_6 l0_6.length c0_6), (.slice A0_7 l0_7.length c0_7), .bool a0_8] 29 (0, 0))) ∧ Aside0 (Below w.heap.size w wc))
 case first =>
  have H := HC2.out
  clear HC2
  by_cases c5 : a0_0 = 0
  · rw [if_pos c5] at H
    have c5b0 : (a0_0 == 0) = true := beq_iff_eq.mpr c5
    have c5b1 : (a0_0 != 0) = false := bne_eq_false_iff_eq.mpr c5
    clear c5
    (first | rw [c5b0] | (simp only [i64_w, i32_w]; rw [c5b0]) | skip)
    obtain ⟨t158, A6, H⟩ := bs_ H
    obtain rfl := Option.some.inj H
    go_wp2_with (first | ((with_reducible refine gate_dst (N := 12) rfl ?_); (try (refine gate_guard (by rfl) ?_; dsimp only)); refine bl_ 12 BK157.out ⟨_, Try.underlying29, rfl⟩ ?_) | ((with_reducible refine gate_callee (f := 25) rfl ?_); refine gl_ (some 14) Try.func25 #[.agg #[.int .i64 a0_0, .int .i64 a0_1, .int .i64 a0_2, .int .i64 a0_3, .int .i64 a0_4, .int .i64 a0_5, .slice A0_6 l0_6.length c0_6, .slice A0_7 l0_7.length c0_7, .bool a0_8], .agg #[.int .i64 0, .int .i64 0, .int .i64 0, .int .i64 0, .int .i64 0, .int .i64 0, .slice none 0 0, .slice none 0 0, .bool false]] ?_; (refine (command_Same.calls k a0_0 a0_1 a0_2 a0_3 a0_4 a0_5 _ _ l0_6 _ _ l0_7 a0_8 0 0 0 0 0 0 _ _ ([] : List (S38)) _ _ ([] : List (S40)) false t158 _ ?side1 ?side2 ?side3 ?side4 ?side5 ?side6 ?side7 ?side8 A6.out).mono ?_); (case side1 => exact kc_ (Kd.C_below HR0_6.out HB.out)); (case side2 => exact HC0_6.out); (case side3 => exact kc_ (Kd.C_below HR0_7.out HB.out)); (case side4 => exact HC0_7.out); (case side5 => exact Kd.C_nil _ _); (case side6 => exact Nat.le_refl _); (case side7 => exact Kd.C_nil _ _); (case side8 => exact Nat.le_refl _); rintro e w8 ⟨rfl, hb⟩; refine ⟨_, rfl, ?_⟩; replace BK157 := bb_ BK157 hb; replace HB := hs_ HB hb; (try clear hb); (try clear hi)))
    go_ret
    exact ⟨by first | rfl | (simp [errW_none, errW_some] <;> rfl) | (simp [*, errW_none, errW_some] <;> rfl), by repeat (first | (with_reducible first | exact HB.out | apply below_alloc | apply pw_below_drewN | apply below_drew1 | refine below_set ?_ GE157.out) | exact HB.out)⟩
  · rw [if_neg c5] at H
    have c5b0 : (a0_0 == 0) = false := beq_eq_false_iff_ne.mpr c5
    have c5b1 : (a0_0 != 0) = true := bne_iff_ne.mpr c5
    (first | rw [c5b0] | (simp only [i64_w, i32_w]; rw [c5b0]) | skip)
    by_cases c9 : a0_0 = 1
    · rw [if_pos c9] at H
      have c9b0 : (a0_0 == 1) = true := beq_iff_eq.mpr c9
      have c9b1 : (a0_0 != 1) = false := bne_eq_false_iff_eq.mpr c9
      clear c9
      have H' := Aside0.mk H
      clear H
      go_wp2
      go_meet
      case rel => exact ⟨_, H', ⟨by first | omega | exact Nat.le_refl _⟩, ⟨by (with_reducible repeat (first | refine blk_drewN ?_ _ | refine blk_drew ?_ | refine blk_alloc ?_ _)); exact BK157.out⟩, ⟨by repeat (first | (with_reducible first | exact HB.out | apply below_alloc | apply pw_below_drewN | apply below_drew1 | refine below_set ?_ GE157.out) | exact HB.out)⟩⟩
    · rw [if_neg c9] at H
      have c9b0 : (a0_0 == 1) = false := beq_eq_false_iff_ne.mpr c9
      have c9b1 : (a0_0 != 1) = true := bne_iff_ne.mpr c9
      by_cases c10 : a0_0 = 2
      · rw [if_pos c10] at H
        have c10b0 : (a0_0 == 2) = true := beq_iff_eq.mpr c10
        have c10b1 : (a0_0 != 2) = false := bne_eq_false_iff_eq.mpr c10
        clear c10
        have H' := Aside0.mk H
        clear H
        go_wp2
        go_meet
        case rel => exact ⟨_, H', ⟨by first | omega | exact Nat.le_refl _⟩, ⟨by (with_reducible repeat (first | refine blk_drewN ?_ _ | refine blk_drew ?_ | refine blk_alloc ?_ _)); exact BK157.out⟩, ⟨by repeat (first | (with_reducible first | exact HB.out | apply below_alloc | apply pw_below_drewN | apply below_drew1 | refine below_set ?_ GE157.out) | exact HB.out)⟩⟩
      · rw [if_neg c10] at H
        have c10b0 : (a0_0 == 2) = false := beq_eq_false_iff_ne.mpr c10
        have c10b1 : (a0_0 != 2) = true := bne_iff_ne.mpr c10
        obtain rfl := Option.some.inj H
        go_wp2
        go_ret
        exact ⟨by first | rfl | (simp [errW_none, errW_some] <;> rfl) | (simp [*, errW_none, errW_some] <;> rfl), by repeat (first | (with_reducible first | exact HB.out | apply below_alloc | apply pw_below_drewN | apply below_drew1 | refine below_set ?_ GE157.out) | exact HB.out)⟩
 case rest =>
  clear HC2
  try clear c1
  try clear c2
  try clear p2
  try clear c5
  try clear c5b0
  try clear c5b1
  try clear c9
  try clear c9b0
  try clear c9b1
  try clear c10
  try clear c10b0
  try clear c10b1
  try clear hcz4_0 hcz4_1 hcz4_2 hcz4_3 hcz4_4 hcz4_5 hcz4_6 hcz4_7 hcz4_8
  try clear hfz4_0 hfz4_1 hfz4_2 hfz4_3 hfz4_4 hfz4_5 hfz4_6 hfz4_7 hfz4_8
  obtain ⟨kq, HA, HJ1, BK157, HB⟩ := hcut
  cases kq with
  | zero => exact absurd HA.out (by simp [command_Right.j0])
  | succ kj1 =>
   have H := HA.out
   clear HA
   simp only [command_Right.j0] at H
   have HC11 := Aside0.mk H
   clear H
   go_upto_region 7 with (fail)
   go_cut [71] (fun v71 wc => ∃ (kq : Nat) (x71_10 : Bool), v71 = .bool x71_10 ∧ Aside0 (command_Right.j1 kq x71_10 a0_0 a0_1 a0_2 a0_3 a0_4 a0_5 l0_6 l0_7 a0_8 = some r) ∧ Aside0 (kq ≤ kj1) ∧ Aside0 (wc.heap[gb157]? = some (.cells #[.int .i64 a0_0, .int .i64 a0_1, .int .i64 a0_2, .int .i64 a0_3, .int .i64 a0_4, .int .i64 a0_5, (.slice A0_6 l0_6.length c0_6), (.slice A0_7 l0_7.length c0_7), .bool a0_8] 29 (0, 0))) ∧ Aside0 (Below w.heap.size w wc))
   case first =>
    have H := HC11.out
    clear HC11
    obtain ⟨t159, A12, H⟩ := bs_ H
    by_cases c13 : t159 = true
    · subst c13
      rw [if_pos rfl] at H
      obtain ⟨t160, A14, H⟩ := bs_ H
      by_cases c15 : t160 = true
      · subst c15
        rw [if_pos rfl] at H
        by_cases c16 : a0_3 < 1
        · rw [if_pos c16] at H
          have c16b0 : decide (a0_3 < 1) = true := decide_eq_true c16
          clear c16
          (first | rw [c16b0] | (simp only [i64_w, i32_w]; rw [c16b0]) | skip)
          have H' := Aside0.mk H
          clear H
          refine blk9_ BK157.out fun hcz17_0 hcz17_1 hcz17_2 hcz17_3 hcz17_4 hcz17_5 hcz17_6 hcz17_7 hcz17_8 hfz17_0 hfz17_1 hfz17_2 hfz17_3 hfz17_4 hfz17_5 hfz17_6 hfz17_7 hfz17_8 => ?_
          go_wp2_with (first | ((with_reducible refine gate_callee (f := 27) rfl ?_); refine gl_ (some 20) Try.func27 #[.agg #[.int .i64 a0_1, .int .i64 a0_2]] ?_; (with_reducible refine (stamp_RightTxn.calls a0_1 a0_2 true _ A12.out).mono ?_); rintro e w18 ⟨rfl, hb⟩; refine ⟨_, rfl, ?_⟩; replace BK157 := bb_ BK157 hb; replace HB := hs_ HB hb; (try clear hb); refine blk9_ BK157.out fun hcz19_0 hcz19_1 hcz19_2 hcz19_3 hcz19_4 hcz19_5 hcz19_6 hcz19_7 hcz19_8 hfz19_0 hfz19_1 hfz19_2 hfz19_3 hfz19_4 hfz19_5 hfz19_6 hfz19_7 hfz19_8 => ?_) | (go_at_call 28; (with_reducible refine (stamp_RightStamp.calls a0_3 a0_4 true _ A14.out).mono ?_); rintro e w20 ⟨rfl, hb⟩; replace BK157 := bb_ BK157 hb; replace HB := hs_ HB hb; (try clear hb); refine blk9_ BK157.out fun hcz21_0 hcz21_1 hcz21_2 hcz21_3 hcz21_4 hcz21_5 hcz21_6 hcz21_7 hcz21_8 hfz21_0 hfz21_1 hfz21_2 hfz21_3 hfz21_4 hfz21_5 hfz21_6 hfz21_7 hfz21_8 => ?_))
          go_meet
          case rel => exact ⟨_, (true), sm_, H', ⟨by have := HJ1.out; first | omega | exact Nat.le_refl _⟩, ⟨by (with_reducible repeat (first | refine blk_drewN ?_ _ | refine blk_drew ?_ | refine blk_alloc ?_ _)); exact BK157.out⟩, ⟨by repeat (first | (with_reducible first | exact HB.out | apply below_alloc | apply pw_below_drewN | apply below_drew1 | refine below_set ?_ GE157.out) | exact HB.out)⟩⟩
        · rw [if_neg c16] at H
          have c16b0 : decide (a0_3 < 1) = false := decide_eq_false c16
          clear c16
          (first | rw [c16b0] | (simp only [i64_w, i32_w]; rw [c16b0]) | skip)
          by_cases c22 : a0_4 = a0_1
          · rw [if_pos c22] at H
            have c22b0 : (a0_4 == a0_1) = true := beq_iff_eq.mpr c22
            have c22b1 : (a0_4 != a0_1) = false := bne_eq_false_iff_eq.mpr c22
            clear c22
            by_cases c23 : a0_5 < 1
            · rw [if_pos c23] at H
              have c23b0 : decide (a0_5 < 1) = true := decide_eq_true c23
              clear c23
              have H' := Aside0.mk H
              clear H
              refine blk9_ BK157.out fun hcz24_0 hcz24_1 hcz24_2 hcz24_3 hcz24_4 hcz24_5 hcz24_6 hcz24_7 hcz24_8 hfz24_0 hfz24_1 hfz24_2 hfz24_3 hfz24_4 hfz24_5 hfz24_6 hfz24_7 hfz24_8 => ?_
              go_wp2_with (first | ((with_reducible refine gate_callee (f := 27) rfl ?_); refine gl_ (some 20) Try.func27 #[.agg #[.int .i64 a0_1, .int .i64 a0_2]] ?_; (with_reducible refine (stamp_RightTxn.calls a0_1 a0_2 true _ A12.out).mono ?_); rintro e w25 ⟨rfl, hb⟩; refine ⟨_, rfl, ?_⟩; replace BK157 := bb_ BK157 hb; replace HB := hs_ HB hb; (try clear hb); refine blk9_ BK157.out fun hcz26_0 hcz26_1 hcz26_2 hcz26_3 hcz26_4 hcz26_5 hcz26_6 hcz26_7 hcz26_8 hfz26_0 hfz26_1 hfz26_2 hfz26_3 hfz26_4 hfz26_5 hfz26_6 hfz26_7 hfz26_8 => ?_) | (go_at_call 28; (with_reducible refine (stamp_RightStamp.calls a0_3 a0_4 true _ A14.out).mono ?_); rintro e w27 ⟨rfl, hb⟩; replace BK157 := bb_ BK157 hb; replace HB := hs_ HB hb; (try clear hb); refine blk9_ BK157.out fun hcz28_0 hcz28_1 hcz28_2 hcz28_3 hcz28_4 hcz28_5 hcz28_6 hcz28_7 hcz28_8 hfz28_0 hfz28_1 hfz28_2 hfz28_3 hfz28_4 hfz28_5 hfz28_6 hfz28_7 hfz28_8 => ?_))
              go_meet
              case rel => exact ⟨_, (true), sm_, H', ⟨by have := HJ1.out; first | omega | exact Nat.le_refl _⟩, ⟨by (with_reducible repeat (first | refine blk_drewN ?_ _ | refine blk_drew ?_ | refine blk_alloc ?_ _)); exact BK157.out⟩, ⟨by repeat (first | (with_reducible first | exact HB.out | apply below_alloc | apply pw_below_drewN | apply below_drew1 | refine below_set ?_ GE157.out) | exact HB.out)⟩⟩
            · rw [if_neg c23] at H
              have c23b0 : decide (a0_5 < 1) = false := decide_eq_false c23
              clear c23
              by_cases c29 : a0_5 > 15
              · rw [if_pos c29] at H
                have c29b0 : decide (15 < a0_5) = true := decide_eq_true c29
                clear c29
                have H' := Aside0.mk H
                clear H
                refine blk9_ BK157.out fun hcz30_0 hcz30_1 hcz30_2 hcz30_3 hcz30_4 hcz30_5 hcz30_6 hcz30_7 hcz30_8 hfz30_0 hfz30_1 hfz30_2 hfz30_3 hfz30_4 hfz30_5 hfz30_6 hfz30_7 hfz30_8 => ?_
                go_wp2_with (first | ((with_reducible refine gate_callee (f := 27) rfl ?_); refine gl_ (some 20) Try.func27 #[.agg #[.int .i64 a0_1, .int .i64 a0_2]] ?_; (with_reducible refine (stamp_RightTxn.calls a0_1 a0_2 true _ A12.out).mono ?_); rintro e w31 ⟨rfl, hb⟩; refine ⟨_, rfl, ?_⟩; replace BK157 := bb_ BK157 hb; replace HB := hs_ HB hb; (try clear hb); refine blk9_ BK157.out fun hcz32_0 hcz32_1 hcz32_2 hcz32_3 hcz32_4 hcz32_5 hcz32_6 hcz32_7 hcz32_8 hfz32_0 hfz32_1 hfz32_2 hfz32_3 hfz32_4 hfz32_5 hfz32_6 hfz32_7 hfz32_8 => ?_) | (go_at_call 28; (with_reducible refine (stamp_RightStamp.calls a0_3 a0_4 true _ A14.out).mono ?_); rintro e w33 ⟨rfl, hb⟩; replace BK157 := bb_ BK157 hb; replace HB := hs_ HB hb; (try clear hb); refine blk9_ BK157.out fun hcz34_0 hcz34_1 hcz34_2 hcz34_3 hcz34_4 hcz34_5 hcz34_6 hcz34_7 hcz34_8 hfz34_0 hfz34_1 hfz34_2 hfz34_3 hfz34_4 hfz34_5 hfz34_6 hfz34_7 hfz34_8 => ?_))
                go_meet
                case rel => exact ⟨_, (true), sm_, H', ⟨by have := HJ1.out; first | omega | exact Nat.le_refl _⟩, ⟨by (with_reducible repeat (first | refine blk_drewN ?_ _ | refine blk_drew ?_ | refine blk_alloc ?_ _)); exact BK157.out⟩, ⟨by repeat (first | (with_reducible first | exact HB.out | apply below_alloc | apply pw_below_drewN | apply below_drew1 | refine below_set ?_ GE157.out) | exact HB.out)⟩⟩
              · rw [if_neg c29] at H
                have c29b0 : decide (15 < a0_5) = false := decide_eq_false c29
                clear c29
                by_cases c35 : (wrap64 ((l0_6.length : Int) + (l0_7.length : Int))) = 0
                · rw [if_pos c35] at H
                  have c35b0 : ((wrap64 ((l0_6.length : Int) + (l0_7.length : Int))) == 0) = true := beq_iff_eq.mpr c35
                  have c35b1 : ((wrap64 ((l0_6.length : Int) + (l0_7.length : Int))) != 0) = false := bne_eq_false_iff_eq.mpr c35
                  clear c35
                  have H' := Aside0.mk H
                  clear H
                  refine blk9_ BK157.out fun hcz36_0 hcz36_1 hcz36_2 hcz36_3 hcz36_4 hcz36_5 hcz36_6 hcz36_7 hcz36_8 hfz36_0 hfz36_1 hfz36_2 hfz36_3 hfz36_4 hfz36_5 hfz36_6 hfz36_7 hfz36_8 => ?_
                  go_wp2_with (first | ((with_reducible refine gate_callee (f := 27) rfl ?_); refine gl_ (some 20) Try.func27 #[.agg #[.int .i64 a0_1, .int .i64 a0_2]] ?_; (with_reducible refine (stamp_RightTxn.calls a0_1 a0_2 true _ A12.out).mono ?_); rintro e w37 ⟨rfl, hb⟩; refine ⟨_, rfl, ?_⟩; replace BK157 := bb_ BK157 hb; replace HB := hs_ HB hb; (try clear hb); refine blk9_ BK157.out fun hcz38_0 hcz38_1 hcz38_2 hcz38_3 hcz38_4 hcz38_5 hcz38_6 hcz38_7 hcz38_8 hfz38_0 hfz38_1 hfz38_2 hfz38_3 hfz38_4 hfz38_5 hfz38_6 hfz38_7 hfz38_8 => ?_) | (go_at_call 28; (with_reducible refine (stamp_RightStamp.calls a0_3 a0_4 true _ A14.out).mono ?_); rintro e w39 ⟨rfl, hb⟩; replace BK157 := bb_ BK157 hb; replace HB := hs_ HB hb; (try clear hb); refine blk9_ BK157.out fun hcz40_0 hcz40_1 hcz40_2 hcz40_3 hcz40_4 hcz40_5 hcz40_6 hcz40_7 hcz40_8 hfz40_0 hfz40_1 hfz40_2 hfz40_3 hfz40_4 hfz40_5 hfz40_6 hfz40_7 hfz40_8 => ?_))
                  go_meet
                  case rel => exact ⟨_, (true), sm_, H', ⟨by have := HJ1.out; first | omega | exact Nat.le_refl _⟩, ⟨by (with_reducible repeat (first | refine blk_drewN ?_ _ | refine blk_drew ?_ | refine blk_alloc ?_ _)); exact BK157.out⟩, ⟨by repeat (first | (with_reducible first | exact HB.out | apply below_alloc | apply pw_below_drewN | apply below_drew1 | refine below_set ?_ GE157.out) | exact HB.out)⟩⟩
                · rw [if_neg c35] at H
                  have c35b0 : ((wrap64 ((l0_6.length : Int) + (l0_7.length : Int))) == 0) = false := beq_eq_false_iff_ne.mpr c35
                  have c35b1 : ((wrap64 ((l0_6.length : Int) + (l0_7.length : Int))) != 0) = true := bne_iff_ne.mpr c35
                  by_cases c41 : a0_8 = true
                  · subst c41
                    rw [if_pos rfl] at H
                    have H' := Aside0.mk H
                    clear H
                    refine blk9_ BK157.out fun hcz42_0 hcz42_1 hcz42_2 hcz42_3 hcz42_4 hcz42_5 hcz42_6 hcz42_7 hcz42_8 hfz42_0 hfz42_1 hfz42_2 hfz42_3 hfz42_4 hfz42_5 hfz42_6 hfz42_7 hfz42_8 => ?_
                    go_wp2_with (first | ((with_reducible refine gate_callee (f := 27) rfl ?_); refine gl_ (some 20) Try.func27 #[.agg #[.int .i64 a0_1, .int .i64 a0_2]] ?_; (with_reducible refine (stamp_RightTxn.calls a0_1 a0_2 true _ A12.out).mono ?_); rintro e w43 ⟨rfl, hb⟩; refine ⟨_, rfl, ?_⟩; replace BK157 := bb_ BK157 hb; replace HB := hs_ HB hb; (try clear hb); refine blk9_ BK157.out fun hcz44_0 hcz44_1 hcz44_2 hcz44_3 hcz44_4 hcz44_5 hcz44_6 hcz44_7 hcz44_8 hfz44_0 hfz44_1 hfz44_2 hfz44_3 hfz44_4 hfz44_5 hfz44_6 hfz44_7 hfz44_8 => ?_) | (go_at_call 28; (with_reducible refine (stamp_RightStamp.calls a0_3 a0_4 true _ A14.out).mono ?_); rintro e w45 ⟨rfl, hb⟩; replace BK157 := bb_ BK157 hb; replace HB := hs_ HB hb; (try clear hb); refine blk9_ BK157.out fun hcz46_0 hcz46_1 hcz46_2 hcz46_3 hcz46_4 hcz46_5 hcz46_6 hcz46_7 hcz46_8 hfz46_0 hfz46_1 hfz46_2 hfz46_3 hfz46_4 hfz46_5 hfz46_6 hfz46_7 hfz46_8 => ?_))
                    go_meet
                    case rel => exact ⟨_, ((a0_0 == 1)), sm_, H', ⟨by have := HJ1.out; first | omega | exact Nat.le_refl _⟩, ⟨by (with_reducible repeat (first | refine blk_drewN ?_ _ | refine blk_drew ?_ | refine blk_alloc ?_ _)); exact BK157.out⟩, ⟨by repeat (first | (with_reducible first | exact HB.out | apply below_alloc | apply pw_below_drewN | apply below_drew1 | refine below_set ?_ GE157.out) | exact HB.out)⟩⟩
                  · replace c41 := Bool.eq_false_iff.mpr c41
                    subst c41
                    rw [if_neg (show ¬ (false = true) by decide)] at H
                    have H' := Aside0.mk H
                    clear H
                    refine blk9_ BK157.out fun hcz47_0 hcz47_1 hcz47_2 hcz47_3 hcz47_4 hcz47_5 hcz47_6 hcz47_7 hcz47_8 hfz47_0 hfz47_1 hfz47_2 hfz47_3 hfz47_4 hfz47_5 hfz47_6 hfz47_7 hfz47_8 => ?_
                    go_wp2_with (first | ((with_reducible refine gate_callee (f := 27) rfl ?_); refine gl_ (some 20) Try.func27 #[.agg #[.int .i64 a0_1, .int .i64 a0_2]] ?_; (with_reducible refine (stamp_RightTxn.calls a0_1 a0_2 true _ A12.out).mono ?_); rintro e w48 ⟨rfl, hb⟩; refine ⟨_, rfl, ?_⟩; replace BK157 := bb_ BK157 hb; replace HB := hs_ HB hb; (try clear hb); refine blk9_ BK157.out fun hcz49_0 hcz49_1 hcz49_2 hcz49_3 hcz49_4 hcz49_5 hcz49_6 hcz49_7 hcz49_8 hfz49_0 hfz49_1 hfz49_2 hfz49_3 hfz49_4 hfz49_5 hfz49_6 hfz49_7 hfz49_8 => ?_) | (go_at_call 28; (with_reducible refine (stamp_RightStamp.calls a0_3 a0_4 true _ A14.out).mono ?_); rintro e w50 ⟨rfl, hb⟩; replace BK157 := bb_ BK157 hb; replace HB := hs_ HB hb; (try clear hb); refine blk9_ BK157.out fun hcz51_0 hcz51_1 hcz51_2 hcz51_3 hcz51_4 hcz51_5 hcz51_6 hcz51_7 hcz51_8 hfz51_0 hfz51_1 hfz51_2 hfz51_3 hfz51_4 hfz51_5 hfz51_6 hfz51_7 hfz51_8 => ?_))
                    go_meet
                    case rel => exact ⟨_, (false), sm_, H', ⟨by have := HJ1.out; first | omega | exact Nat.le_refl _⟩, ⟨by (with_reducible repeat (first | refine blk_drewN ?_ _ | refine blk_drew ?_ | refine blk_alloc ?_ _)); exact BK157.out⟩, ⟨by repeat (first | (with_reducible first | exact HB.out | apply below_alloc | apply pw_below_drewN | apply below_drew1 | refine below_set ?_ GE157.out) | exact HB.out)⟩⟩
          · rw [if_neg c22] at H
            have c22b0 : (a0_4 == a0_1) = false := beq_eq_false_iff_ne.mpr c22
            have c22b1 : (a0_4 != a0_1) = true := bne_iff_ne.mpr c22
            have H' := Aside0.mk H
            clear H
            refine blk9_ BK157.out fun hcz52_0 hcz52_1 hcz52_2 hcz52_3 hcz52_4 hcz52_5 hcz52_6 hcz52_7 hcz52_8 hfz52_0 hfz52_1 hfz52_2 hfz52_3 hfz52_4 hfz52_5 hfz52_6 hfz52_7 hfz52_8 => ?_
            go_wp2_with (first | ((with_reducible refine gate_callee (f := 27) rfl ?_); refine gl_ (some 20) Try.func27 #[.agg #[.int .i64 a0_1, .int .i64 a0_2]] ?_; (with_reducible refine (stamp_RightTxn.calls a0_1 a0_2 true _ A12.out).mono ?_); rintro e w53 ⟨rfl, hb⟩; refine ⟨_, rfl, ?_⟩; replace BK157 := bb_ BK157 hb; replace HB := hs_ HB hb; (try clear hb); refine blk9_ BK157.out fun hcz54_0 hcz54_1 hcz54_2 hcz54_3 hcz54_4 hcz54_5 hcz54_6 hcz54_7 hcz54_8 hfz54_0 hfz54_1 hfz54_2 hfz54_3 hfz54_4 hfz54_5 hfz54_6 hfz54_7 hfz54_8 => ?_) | (go_at_call 28; (with_reducible refine (stamp_RightStamp.calls a0_3 a0_4 true _ A14.out).mono ?_); rintro e w55 ⟨rfl, hb⟩; replace BK157 := bb_ BK157 hb; replace HB := hs_ HB hb; (try clear hb); refine blk9_ BK157.out fun hcz56_0 hcz56_1 hcz56_2 hcz56_3 hcz56_4 hcz56_5 hcz56_6 hcz56_7 hcz56_8 hfz56_0 hfz56_1 hfz56_2 hfz56_3 hfz56_4 hfz56_5 hfz56_6 hfz56_7 hfz56_8 => ?_))
            go_meet
            case rel => exact ⟨_, (true), sm_, H', ⟨by have := HJ1.out; first | omega | exact Nat.le_refl _⟩, ⟨by (with_reducible repeat (first | refine blk_drewN ?_ _ | refine blk_drew ?_ | refine blk_alloc ?_ _)); exact BK157.out⟩, ⟨by repeat (first | (with_reducible first | exact HB.out | apply below_alloc | apply pw_below_drewN | apply below_drew1 | refine below_set ?_ GE157.out) | exact HB.out)⟩⟩
      · replace c15 := Bool.eq_false_iff.mpr c15
        subst c15
        rw [if_neg (show ¬ (false = true) by decide)] at H
        have H' := Aside0.mk H
        clear H
        refine blk9_ BK157.out fun hcz57_0 hcz57_1 hcz57_2 hcz57_3 hcz57_4 hcz57_5 hcz57_6 hcz57_7 hcz57_8 hfz57_0 hfz57_1 hfz57_2 hfz57_3 hfz57_4 hfz57_5 hfz57_6 hfz57_7 hfz57_8 => ?_
        go_wp2_with (first | ((with_reducible refine gate_callee (f := 27) rfl ?_); refine gl_ (some 20) Try.func27 #[.agg #[.int .i64 a0_1, .int .i64 a0_2]] ?_; (with_reducible refine (stamp_RightTxn.calls a0_1 a0_2 true _ A12.out).mono ?_); rintro e w58 ⟨rfl, hb⟩; refine ⟨_, rfl, ?_⟩; replace BK157 := bb_ BK157 hb; replace HB := hs_ HB hb; (try clear hb); (try clear hi); refine blk9_ BK157.out fun hcz59_0 hcz59_1 hcz59_2 hcz59_3 hcz59_4 hcz59_5 hcz59_6 hcz59_7 hcz59_8 hfz59_0 hfz59_1 hfz59_2 hfz59_3 hfz59_4 hfz59_5 hfz59_6 hfz59_7 hfz59_8 => ?_) | (go_at_call 28; (with_reducible refine (stamp_RightStamp.calls a0_3 a0_4 false _ A14.out).mono ?_); rintro e w60 ⟨rfl, hb⟩; replace BK157 := bb_ BK157 hb; replace HB := hs_ HB hb; (try clear hb); (try clear hi)))
        go_meet
        case rel => exact ⟨_, (true), sm_, H', ⟨by have := HJ1.out; first | omega | exact Nat.le_refl _⟩, ⟨by (with_reducible repeat (first | refine blk_drewN ?_ _ | refine blk_drew ?_ | refine blk_alloc ?_ _)); exact BK157.out⟩, ⟨by repeat (first | (with_reducible first | exact HB.out | apply below_alloc | apply pw_below_drewN | apply below_drew1 | refine below_set ?_ GE157.out) | exact HB.out)⟩⟩
    · replace c13 := Bool.eq_false_iff.mpr c13
      subst c13
      rw [if_neg (show ¬ (false = true) by decide)] at H
      have H' := Aside0.mk H
      clear H
      refine blk9_ BK157.out fun hcz61_0 hcz61_1 hcz61_2 hcz61_3 hcz61_4 hcz61_5 hcz61_6 hcz61_7 hcz61_8 hfz61_0 hfz61_1 hfz61_2 hfz61_3 hfz61_4 hfz61_5 hfz61_6 hfz61_7 hfz61_8 => ?_
      go_wp2_with (first | ((with_reducible refine gate_callee (f := 27) rfl ?_); refine gl_ (some 20) Try.func27 #[.agg #[.int .i64 a0_1, .int .i64 a0_2]] ?_; (with_reducible refine (stamp_RightTxn.calls a0_1 a0_2 false _ A12.out).mono ?_); rintro e w62 ⟨rfl, hb⟩; refine ⟨_, rfl, ?_⟩; replace BK157 := bb_ BK157 hb; replace HB := hs_ HB hb; (try clear hb); (try clear hi)))
      go_meet
      case rel => exact ⟨_, (true), sm_, H', ⟨by have := HJ1.out; first | omega | exact Nat.le_refl _⟩, ⟨by (with_reducible repeat (first | refine blk_drewN ?_ _ | refine blk_drew ?_ | refine blk_alloc ?_ _)); exact BK157.out⟩, ⟨by repeat (first | (with_reducible first | exact HB.out | apply below_alloc | apply pw_below_drewN | apply below_drew1 | refine below_set ?_ GE157.out) | exact HB.out)⟩⟩
   case rest =>
    clear HC11
    try clear c1
    try clear c2
    try clear p2
    try clear c3
    try clear c4
    try clear c5
    try clear c5b0
    try clear c5b1
    try clear p6
    try clear c9
    try clear c9b0
    try clear c9b1
    try clear c10
    try clear c10b0
    try clear c10b1
    try clear c13
    try clear c14
    try clear c15
    try clear c16
    try clear c16b0
    try clear c22
    try clear c22b0
    try clear c22b1
    try clear c23
    try clear c23b0
    try clear c25
    try clear c27
    try clear c29
    try clear c29b0
    try clear c35
    try clear c35b0
    try clear c35b1
    try clear c41
    try clear hcz17_0 hcz17_1 hcz17_2 hcz17_3 hcz17_4 hcz17_5 hcz17_6 hcz17_7 hcz17_8
    try clear hcz19_0 hcz19_1 hcz19_2 hcz19_3 hcz19_4 hcz19_5 hcz19_6 hcz19_7 hcz19_8
    try clear hcz21_0 hcz21_1 hcz21_2 hcz21_3 hcz21_4 hcz21_5 hcz21_6 hcz21_7 hcz21_8
    try clear hcz24_0 hcz24_1 hcz24_2 hcz24_3 hcz24_4 hcz24_5 hcz24_6 hcz24_7 hcz24_8
    try clear hcz26_0 hcz26_1 hcz26_2 hcz26_3 hcz26_4 hcz26_5 hcz26_6 hcz26_7 hcz26_8
    try clear hcz28_0 hcz28_1 hcz28_2 hcz28_3 hcz28_4 hcz28_5 hcz28_6 hcz28_7 hcz28_8
    try clear hcz30_0 hcz30_1 hcz30_2 hcz30_3 hcz30_4 hcz30_5 hcz30_6 hcz30_7 hcz30_8
    try clear hcz32_0 hcz32_1 hcz32_2 hcz32_3 hcz32_4 hcz32_5 hcz32_6 hcz32_7 hcz32_8
    try clear hcz34_0 hcz34_1 hcz34_2 hcz34_3 hcz34_4 hcz34_5 hcz34_6 hcz34_7 hcz34_8
    try clear hcz36_0 hcz36_1 hcz36_2 hcz36_3 hcz36_4 hcz36_5 hcz36_6 hcz36_7 hcz36_8
    try clear hcz38_0 hcz38_1 hcz38_2 hcz38_3 hcz38_4 hcz38_5 hcz38_6 hcz38_7 hcz38_8
    try clear hcz40_0 hcz40_1 hcz40_2 hcz40_3 hcz40_4 hcz40_5 hcz40_6 hcz40_7 hcz40_8
    try clear hcz42_0 hcz42_1 hcz42_2 hcz42_3 hcz42_4 hcz42_5 hcz42_6 hcz42_7 hcz42_8
    try clear hcz44_0 hcz44_1 hcz44_2 hcz44_3 hcz44_4 hcz44_5 hcz44_6 hcz44_7 hcz44_8
    try clear hcz46_0 hcz46_1 hcz46_2 hcz46_3 hcz46_4 hcz46_5 hcz46_6 hcz46_7 hcz46_8
    try clear hcz47_0 hcz47_1 hcz47_2 hcz47_3 hcz47_4 hcz47_5 hcz47_6 hcz47_7 hcz47_8
    try clear hcz49_0 hcz49_1 hcz49_2 hcz49_3 hcz49_4 hcz49_5 hcz49_6 hcz49_7 hcz49_8
    try clear hcz4_0 hcz4_1 hcz4_2 hcz4_3 hcz4_4 hcz4_5 hcz4_6 hcz4_7 hcz4_8
    try clear hcz51_0 hcz51_1 hcz51_2 hcz51_3 hcz51_4 hcz51_5 hcz51_6 hcz51_7 hcz51_8
    try clear hcz52_0 hcz52_1 hcz52_2 hcz52_3 hcz52_4 hcz52_5 hcz52_6 hcz52_7 hcz52_8
    try clear hcz54_0 hcz54_1 hcz54_2 hcz54_3 hcz54_4 hcz54_5 hcz54_6 hcz54_7 hcz54_8
    try clear hcz56_0 hcz56_1 hcz56_2 hcz56_3 hcz56_4 hcz56_5 hcz56_6 hcz56_7 hcz56_8
    try clear hcz57_0 hcz57_1 hcz57_2 hcz57_3 hcz57_4 hcz57_5 hcz57_6 hcz57_7 hcz57_8
    try clear hcz59_0 hcz59_1 hcz59_2 hcz59_3 hcz59_4 hcz59_5 hcz59_6 hcz59_7 hcz59_8
    try clear hcz61_0 hcz61_1 hcz61_2 hcz61_3 hcz61_4 hcz61_5 hcz61_6 hcz61_7 hcz61_8
    try clear hfz17_0 hfz17_1 hfz17_2 hfz17_3 hfz17_4 hfz17_5 hfz17_6 hfz17_7 hfz17_8
    try clear hfz19_0 hfz19_1 hfz19_2 hfz19_3 hfz19_4 hfz19_5 hfz19_6 hfz19_7 hfz19_8
    try clear hfz21_0 hfz21_1 hfz21_2 hfz21_3 hfz21_4 hfz21_5 hfz21_6 hfz21_7 hfz21_8
    try clear hfz24_0 hfz24_1 hfz24_2 hfz24_3 hfz24_4 hfz24_5 hfz24_6 hfz24_7 hfz24_8
    try clear hfz26_0 hfz26_1 hfz26_2 hfz26_3 hfz26_4 hfz26_5 hfz26_6 hfz26_7 hfz26_8
    try clear hfz28_0 hfz28_1 hfz28_2 hfz28_3 hfz28_4 hfz28_5 hfz28_6 hfz28_7 hfz28_8
    try clear hfz30_0 hfz30_1 hfz30_2 hfz30_3 hfz30_4 hfz30_5 hfz30_6 hfz30_7 hfz30_8
    try clear hfz32_0 hfz32_1 hfz32_2 hfz32_3 hfz32_4 hfz32_5 hfz32_6 hfz32_7 hfz32_8
    try clear hfz34_0 hfz34_1 hfz34_2 hfz34_3 hfz34_4 hfz34_5 hfz34_6 hfz34_7 hfz34_8
    try clear hfz36_0 hfz36_1 hfz36_2 hfz36_3 hfz36_4 hfz36_5 hfz36_6 hfz36_7 hfz36_8
    try clear hfz38_0 hfz38_1 hfz38_2 hfz38_3 hfz38_4 hfz38_5 hfz38_6 hfz38_7 hfz38_8
    try clear hfz40_0 hfz40_1 hfz40_2 hfz40_3 hfz40_4 hfz40_5 hfz40_6 hfz40_7 hfz40_8
    try clear hfz42_0 hfz42_1 hfz42_2 hfz42_3 hfz42_4 hfz42_5 hfz42_6 hfz42_7 hfz42_8
    try clear hfz44_0 hfz44_1 hfz44_2 hfz44_3 hfz44_4 hfz44_5 hfz44_6 hfz44_7 hfz44_8
    try clear hfz46_0 hfz46_1 hfz46_2 hfz46_3 hfz46_4 hfz46_5 hfz46_6 hfz46_7 hfz46_8
    try clear hfz47_0 hfz47_1 hfz47_2 hfz47_3 hfz47_4 hfz47_5 hfz47_6 hfz47_7 hfz47_8
    try clear hfz49_0 hfz49_1 hfz49_2 hfz49_3 hfz49_4 hfz49_5 hfz49_6 hfz49_7 hfz49_8
    try clear hfz4_0 hfz4_1 hfz4_2 hfz4_3 hfz4_4 hfz4_5 hfz4_6 hfz4_7 hfz4_8
    try clear hfz51_0 hfz51_1 hfz51_2 hfz51_3 hfz51_4 hfz51_5 hfz51_6 hfz51_7 hfz51_8
    try clear hfz52_0 hfz52_1 hfz52_2 hfz52_3 hfz52_4 hfz52_5 hfz52_6 hfz52_7 hfz52_8
    try clear hfz54_0 hfz54_1 hfz54_2 hfz54_3 hfz54_4 hfz54_5 hfz54_6 hfz54_7 hfz54_8
    try clear hfz56_0 hfz56_1 hfz56_2 hfz56_3 hfz56_4 hfz56_5 hfz56_6 hfz56_7 hfz56_8
    try clear hfz57_0 hfz57_1 hfz57_2 hfz57_3 hfz57_4 hfz57_5 hfz57_6 hfz57_7 hfz57_8
    try clear hfz59_0 hfz59_1 hfz59_2 hfz59_3 hfz59_4 hfz59_5 hfz59_6 hfz59_7 hfz59_8
    try clear hfz61_0 hfz61_1 hfz61_2 hfz61_3 hfz61_4 hfz61_5 hfz61_6 hfz61_7 hfz61_8
    try clear p2
    obtain ⟨kq, x71_10, rfl, HA, HJ10, BK157, HB⟩ := hcut
    cases kq with
    | zero => exact absurd HA.out (by simp [command_Right.j1])
    | succ kj10 =>
     have H := HA.out
     clear HA
     simp only [command_Right.j1] at H
     by_cases c63 : x71_10 = true
     · subst c63
       rw [if_pos rfl] at H
       obtain rfl := Option.some.inj H
       go_wp2
       go_ret
       exact ⟨by first | rfl | (simp [errW_none, errW_some] <;> rfl) | (simp [*, errW_none, errW_some] <;> rfl), by repeat (first | (with_reducible first | exact HB.out | apply below_alloc | apply pw_below_drewN | apply below_drew1 | refine below_set ?_ GE157.out) | exact HB.out)⟩
     · replace c63 := Bool.eq_false_iff.mpr c63
       subst c63
       rw [if_neg (show ¬ (false = true) by decide)] at H
       have H' := Aside0.mk H
       clear H
       refine blk9_ BK157.out fun hcz64_0 hcz64_1 hcz64_2 hcz64_3 hcz64_4 hcz64_5 hcz64_6 hcz64_7 hcz64_8 hfz64_0 hfz64_1 hfz64_2 hfz64_3 hfz64_4 hfz64_5 hfz64_6 hfz64_7 hfz64_8 => ?_
       go_wp2
       go_loopg [76] kj10 (fun kq v76 w' => ∃ (x76_3 : Int), v76 = .int .i64 x76_3 ∧ Aside0 (command_Right.l0 kq l0_6 (l0_6.length : Int) x76_3 a0_0 a0_1 a0_2 a0_3 a0_4 a0_5 l0_6 l0_7 a0_8 = some r) ∧ Aside0 (kq ≤ kj10) ∧ Aside0 (w'.heap[gb157]? = some (.cells #[.int .i64 a0_0, .int .i64 a0_1, .int .i64 a0_2, .int .i64 a0_3, .int .i64 a0_4, .int .i64 a0_5, (.slice A0_6 l0_6.length c0_6), (.slice A0_7 l0_7.length c0_7), .bool a0_8] 29 (0, 0))) ∧ Aside0 (Below w.heap.size w w'))
       case atStart => exact ⟨(0), sm_, H', ⟨Nat.le_refl _⟩, ⟨by (with_reducible repeat (first | refine blk_drewN ?_ _ | refine blk_drew ?_ | refine blk_alloc ?_ _)); exact BK157.out⟩, ⟨by repeat (first | (with_reducible first | exact HB.out | apply below_alloc | apply pw_below_drewN | apply below_drew1 | refine below_set ?_ GE157.out) | exact HB.out)⟩⟩
       case round =>
        clear H'
        try clear c1
        try clear c2
        try clear p2
        try clear c3
        try clear c4
        try clear c5
        try clear c5b0
        try clear c5b1
        try clear c6
        try clear p6
        try clear c9
        try clear c9b0
        try clear c9b1
        try clear c10
        try clear c10b0
        try clear c10b1
        try clear c13
        try clear c14
        try clear c15
        try clear c16
        try clear c16b0
        try clear c22
        try clear c22b0
        try clear c22b1
        try clear c23
        try clear c23b0
        try clear c25
        try clear c27
        try clear c29
        try clear c29b0
        try clear c35
        try clear c35b0
        try clear c35b1
        try clear c41
        try clear c63
        try clear hcz17_0 hcz17_1 hcz17_2 hcz17_3 hcz17_4 hcz17_5 hcz17_6 hcz17_7 hcz17_8
        try clear hcz19_0 hcz19_1 hcz19_2 hcz19_3 hcz19_4 hcz19_5 hcz19_6 hcz19_7 hcz19_8
        try clear hcz21_0 hcz21_1 hcz21_2 hcz21_3 hcz21_4 hcz21_5 hcz21_6 hcz21_7 hcz21_8
        try clear hcz24_0 hcz24_1 hcz24_2 hcz24_3 hcz24_4 hcz24_5 hcz24_6 hcz24_7 hcz24_8
        try clear hcz26_0 hcz26_1 hcz26_2 hcz26_3 hcz26_4 hcz26_5 hcz26_6 hcz26_7 hcz26_8
        try clear hcz28_0 hcz28_1 hcz28_2 hcz28_3 hcz28_4 hcz28_5 hcz28_6 hcz28_7 hcz28_8
        try clear hcz30_0 hcz30_1 hcz30_2 hcz30_3 hcz30_4 hcz30_5 hcz30_6 hcz30_7 hcz30_8
        try clear hcz32_0 hcz32_1 hcz32_2 hcz32_3 hcz32_4 hcz32_5 hcz32_6 hcz32_7 hcz32_8
        try clear hcz34_0 hcz34_1 hcz34_2 hcz34_3 hcz34_4 hcz34_5 hcz34_6 hcz34_7 hcz34_8
        try clear hcz36_0 hcz36_1 hcz36_2 hcz36_3 hcz36_4 hcz36_5 hcz36_6 hcz36_7 hcz36_8
        try clear hcz38_0 hcz38_1 hcz38_2 hcz38_3 hcz38_4 hcz38_5 hcz38_6 hcz38_7 hcz38_8
        try clear hcz40_0 hcz40_1 hcz40_2 hcz40_3 hcz40_4 hcz40_5 hcz40_6 hcz40_7 hcz40_8
        try clear hcz42_0 hcz42_1 hcz42_2 hcz42_3 hcz42_4 hcz42_5 hcz42_6 hcz42_7 hcz42_8
        try clear hcz44_0 hcz44_1 hcz44_2 hcz44_3 hcz44_4 hcz44_5 hcz44_6 hcz44_7 hcz44_8
        try clear hcz46_0 hcz46_1 hcz46_2 hcz46_3 hcz46_4 hcz46_5 hcz46_6 hcz46_7 hcz46_8
        try clear hcz47_0 hcz47_1 hcz47_2 hcz47_3 hcz47_4 hcz47_5 hcz47_6 hcz47_7 hcz47_8
        try clear hcz49_0 hcz49_1 hcz49_2 hcz49_3 hcz49_4 hcz49_5 hcz49_6 hcz49_7 hcz49_8
        try clear hcz4_0 hcz4_1 hcz4_2 hcz4_3 hcz4_4 hcz4_5 hcz4_6 hcz4_7 hcz4_8
        try clear hcz51_0 hcz51_1 hcz51_2 hcz51_3 hcz51_4 hcz51_5 hcz51_6 hcz51_7 hcz51_8
        try clear hcz52_0 hcz52_1 hcz52_2 hcz52_3 hcz52_4 hcz52_5 hcz52_6 hcz52_7 hcz52_8
        try clear hcz54_0 hcz54_1 hcz54_2 hcz54_3 hcz54_4 hcz54_5 hcz54_6 hcz54_7 hcz54_8
        try clear hcz56_0 hcz56_1 hcz56_2 hcz56_3 hcz56_4 hcz56_5 hcz56_6 hcz56_7 hcz56_8
        try clear hcz57_0 hcz57_1 hcz57_2 hcz57_3 hcz57_4 hcz57_5 hcz57_6 hcz57_7 hcz57_8
        try clear hcz59_0 hcz59_1 hcz59_2 hcz59_3 hcz59_4 hcz59_5 hcz59_6 hcz59_7 hcz59_8
        try clear hcz61_0 hcz61_1 hcz61_2 hcz61_3 hcz61_4 hcz61_5 hcz61_6 hcz61_7 hcz61_8
        try clear hcz64_0 hcz64_1 hcz64_2 hcz64_3 hcz64_4 hcz64_5 hcz64_6 hcz64_7 hcz64_8
        try clear hfz17_0 hfz17_1 hfz17_2 hfz17_3 hfz17_4 hfz17_5 hfz17_6 hfz17_7 hfz17_8
        try clear hfz19_0 hfz19_1 hfz19_2 hfz19_3 hfz19_4 hfz19_5 hfz19_6 hfz19_7 hfz19_8
        try clear hfz21_0 hfz21_1 hfz21_2 hfz21_3 hfz21_4 hfz21_5 hfz21_6 hfz21_7 hfz21_8
        try clear hfz24_0 hfz24_1 hfz24_2 hfz24_3 hfz24_4 hfz24_5 hfz24_6 hfz24_7 hfz24_8
        try clear hfz26_0 hfz26_1 hfz26_2 hfz26_3 hfz26_4 hfz26_5 hfz26_6 hfz26_7 hfz26_8
        try clear hfz28_0 hfz28_1 hfz28_2 hfz28_3 hfz28_4 hfz28_5 hfz28_6 hfz28_7 hfz28_8
        try clear hfz30_0 hfz30_1 hfz30_2 hfz30_3 hfz30_4 hfz30_5 hfz30_6 hfz30_7 hfz30_8
        try clear hfz32_0 hfz32_1 hfz32_2 hfz32_3 hfz32_4 hfz32_5 hfz32_6 hfz32_7 hfz32_8
        try clear hfz34_0 hfz34_1 hfz34_2 hfz34_3 hfz34_4 hfz34_5 hfz34_6 hfz34_7 hfz34_8
        try clear hfz36_0 hfz36_1 hfz36_2 hfz36_3 hfz36_4 hfz36_5 hfz36_6 hfz36_7 hfz36_8
        try clear hfz38_0 hfz38_1 hfz38_2 hfz38_3 hfz38_4 hfz38_5 hfz38_6 hfz38_7 hfz38_8
        try clear hfz40_0 hfz40_1 hfz40_2 hfz40_3 hfz40_4 hfz40_5 hfz40_6 hfz40_7 hfz40_8
        try clear hfz42_0 hfz42_1 hfz42_2 hfz42_3 hfz42_4 hfz42_5 hfz42_6 hfz42_7 hfz42_8
        try clear hfz44_0 hfz44_1 hfz44_2 hfz44_3 hfz44_4 hfz44_5 hfz44_6 hfz44_7 hfz44_8
        try clear hfz46_0 hfz46_1 hfz46_2 hfz46_3 hfz46_4 hfz46_5 hfz46_6 hfz46_7 hfz46_8
        try clear hfz47_0 hfz47_1 hfz47_2 hfz47_3 hfz47_4 hfz47_5 hfz47_6 hfz47_7 hfz47_8
        try clear hfz49_0 hfz49_1 hfz49_2 hfz49_3 hfz49_4 hfz49_5 hfz49_6 hfz49_7 hfz49_8
        try clear hfz4_0 hfz4_1 hfz4_2 hfz4_3 hfz4_4 hfz4_5 hfz4_6 hfz4_7 hfz4_8
        try clear hfz51_0 hfz51_1 hfz51_2 hfz51_3 hfz51_4 hfz51_5 hfz51_6 hfz51_7 hfz51_8
        try clear hfz52_0 hfz52_1 hfz52_2 hfz52_3 hfz52_4 hfz52_5 hfz52_6 hfz52_7 hfz52_8
        try clear hfz54_0 hfz54_1 hfz54_2 hfz54_3 hfz54_4 hfz54_5 hfz54_6 hfz54_7 hfz54_8
        try clear hfz56_0 hfz56_1 hfz56_2 hfz56_3 hfz56_4 hfz56_5 hfz56_6 hfz56_7 hfz56_8
        try clear hfz57_0 hfz57_1 hfz57_2 hfz57_3 hfz57_4 hfz57_5 hfz57_6 hfz57_7 hfz57_8
        try clear hfz59_0 hfz59_1 hfz59_2 hfz59_3 hfz59_4 hfz59_5 hfz59_6 hfz59_7 hfz59_8
        try clear hfz61_0 hfz61_1 hfz61_2 hfz61_3 hfz61_4 hfz61_5 hfz61_6 hfz61_7 hfz61_8
        try clear hfz64_0 hfz64_1 hfz64_2 hfz64_3 hfz64_4 hfz64_5 hfz64_6 hfz64_7 hfz64_8
        try clear p2
        try clear p6
        (try clear BK157)
        obtain ⟨x76_3, rfl, HA, HK3, BK157, HB⟩ := hrel
        cases gk with
        | zero => exact absurd HA.out (by simp [command_Right.l0])
        | succ k3 =>
         have H := HA.out
         clear HA
         simp only [command_Right.l0] at H
         by_cases c65 : x76_3 < (l0_6.length : Int)
         · rw [if_pos c65] at H
           have c65b0 : decide (x76_3 < (l0_6.length : Int)) = true := decide_eq_true c65
           clear c65
           by_cases c66 : 0 ≤ x76_3
           · rw [if_pos c66] at H
             have c66b0 : decide (0 ≤ x76_3) = true := decide_eq_true c66
             clear c66
             by_cases c67 : x76_3 < (l0_6.length : Int)
             · rw [if_pos c67] at H
               have c67b0 : decide (x76_3 < (l0_6.length : Int)) = true := decide_eq_true c67
               clear c67
               obtain ⟨t163, A68, H⟩ := bs_ H
               by_cases c69 : t163 = true
               · subst c69
                 rw [if_pos rfl] at H
                 have H' := Aside0.mk H
                 clear H
                 have p161 : 0 ≤ (x76_3 : Int) := of_decide_eq_true (by first | (with_reducible assumption) | assumption)
                 have q161 : x76_3 < (l0_6.length : Int) := of_decide_eq_true (by first | (with_reducible assumption) | assumption)
                 obtain ⟨ad161, e161, hx161_0, hx161_1, hx161_2⟩ := at_T38 HR0_6.out x76_3 p161 q161
                 cases e161
                 replace hx161_0 := (HB.out.cell (World.block_lt_of_cell? w _ hx161_0)).trans hx161_0
                 replace hx161_1 := (HB.out.cell (World.block_lt_of_cell? w _ hx161_1)).trans hx161_1
                 replace hx161_2 := (HB.out.cell (World.block_lt_of_cell? w _ hx161_2)).trans hx161_2
                 replace p161 := eq_true p161
                 replace q161 := eq_true q161
                 go_wp2_with (first | ((with_reducible refine gate_dst (N := 5) rfl ?_); (try (refine gate_guard (by rfl) ?_; dsimp only)); refine bx_ 5 38 #[.string (⟨#[]⟩ : ByteArray), .int .i64 0, .int .i64 0] ?_; intro gb162 hg w70 hbox hb; have BK162 := Aside0.mk hbox; have GE162 := ge_ HB hg; have NB157_162 := na_ hg BK157; have NB162_157 := nb_ hg BK157; replace BK157 := bb_ BK157 hb; replace HB := hs_ HB hb; clear hb hbox hg; refine ne2_ NB162_157 fun hnb71 hnc71 => ?_; refine blk3_ BK162.out fun hcz72_0 hcz72_1 hcz72_2 hfz72_0 hfz72_1 hfz72_2 => ?_) | (go_at_call 29; (with_reducible refine (command_Right_1.calls ((rd_T38 l0_6 x76_3).f0) ((rd_T38 l0_6 x76_3).f1.f0) ((rd_T38 l0_6 x76_3).f1.f1) a0_3 a0_4 true _ ?side1 ?side2 A68.out).mono ?_); (case side1 => exact CapC.mk (bo_ BK157) rfl); (case side2 => exact CapC.mk (bo_ BK157) rfl); rintro e w73 ⟨rfl, hb⟩; replace BK157 := bf_ BK157 hb; replace BK162 := Aside0.mk (blk_below (g := gb162) (o := .cells #[.string ((rd_T38 l0_6 x76_3).f0), .int .i64 ((rd_T38 l0_6 x76_3).f1.f0), .int .i64 ((rd_T38 l0_6 x76_3).f1.f1)] 38 (0, 0)) (by (with_reducible repeat (first | refine blk_drewN ?_ _ | refine blk_drew ?_ | refine blk_alloc ?_ _)); refine blk_put (cs := #[.string ((rd_T38 l0_6 x76_3).f0), .int .i64 ((rd_T38 l0_6 x76_3).f1.f0), .int .i64 0]) ?_ 2 _ rfl; (with_reducible repeat (first | refine blk_drewN ?_ _ | refine blk_drew ?_ | refine blk_alloc ?_ _)); refine blk_put (cs := #[.string ((rd_T38 l0_6 x76_3).f0), .int .i64 0, .int .i64 0]) ?_ 1 _ rfl; (with_reducible repeat (first | refine blk_drewN ?_ _ | refine blk_drew ?_ | refine blk_alloc ?_ _)); refine blk_put (cs := #[.string (⟨#[]⟩ : ByteArray), .int .i64 0, .int .i64 0]) ?_ 0 _ rfl; (with_reducible repeat (first | refine blk_drewN ?_ _ | refine blk_drew ?_ | refine blk_alloc ?_ _)); exact BK162.out) hb); replace HB := hs_ HB hb; (try clear hb); (try clear hi)))
                 go_roundg k3
                 case measure => have := HJ1.out; have := HJ10.out; have := HK3.out; omega
                 case rel => exact ⟨(wrap64 (x76_3 + 1)), sm_, H', ⟨by have := HJ1.out; have := HJ10.out; have := HK3.out; omega⟩, ⟨by (with_reducible repeat (first | refine blk_drewN ?_ _ | refine blk_drew ?_ | refine blk_alloc ?_ _)); exact BK157.out⟩, ⟨by repeat (first | (with_reducible first | exact HB.out | apply below_alloc | apply pw_below_drewN | apply below_drew1 | refine below_set ?_ GE157.out | refine below_set ?_ GE162.out) | exact HB.out)⟩⟩
               · replace c69 := Bool.eq_false_iff.mpr c69
                 subst c69
                 rw [if_neg (show ¬ (false = true) by decide)] at H
                 obtain rfl := Option.some.inj H
                 have p161 : 0 ≤ (x76_3 : Int) := of_decide_eq_true (by first | (with_reducible assumption) | assumption)
                 have q161 : x76_3 < (l0_6.length : Int) := of_decide_eq_true (by first | (with_reducible assumption) | assumption)
                 obtain ⟨ad161, e161, hx161_0, hx161_1, hx161_2⟩ := at_T38 HR0_6.out x76_3 p161 q161
                 cases e161
                 replace hx161_0 := (HB.out.cell (World.block_lt_of_cell? w _ hx161_0)).trans hx161_0
                 replace hx161_1 := (HB.out.cell (World.block_lt_of_cell? w _ hx161_1)).trans hx161_1
                 replace hx161_2 := (HB.out.cell (World.block_lt_of_cell? w _ hx161_2)).trans hx161_2
                 replace p161 := eq_true p161
                 replace q161 := eq_true q161
                 go_wp2_with (first | ((with_reducible refine gate_dst (N := 5) rfl ?_); (try (refine gate_guard (by rfl) ?_; dsimp only)); refine bx_ 5 38 #[.string (⟨#[]⟩ : ByteArray), .int .i64 0, .int .i64 0] ?_; intro gb162 hg w74 hbox hb; have BK162 := Aside0.mk hbox; have GE162 := ge_ HB hg; have NB157_162 := na_ hg BK157; have NB162_157 := nb_ hg BK157; replace BK157 := bb_ BK157 hb; replace HB := hs_ HB hb; clear hb hbox hg; refine ne2_ NB162_157 fun hnb75 hnc75 => ?_; refine blk3_ BK162.out fun hcz76_0 hcz76_1 hcz76_2 hfz76_0 hfz76_1 hfz76_2 => ?_) | (go_at_call 29; (with_reducible refine (command_Right_1.calls ((rd_T38 l0_6 x76_3).f0) ((rd_T38 l0_6 x76_3).f1.f0) ((rd_T38 l0_6 x76_3).f1.f1) a0_3 a0_4 false _ ?side1 ?side2 A68.out).mono ?_); (case side1 => exact CapC.mk (bo_ BK157) rfl); (case side2 => exact CapC.mk (bo_ BK157) rfl); rintro e w77 ⟨rfl, hb⟩; replace BK157 := bf_ BK157 hb; replace BK162 := Aside0.mk (blk_below (g := gb162) (o := .cells #[.string ((rd_T38 l0_6 x76_3).f0), .int .i64 ((rd_T38 l0_6 x76_3).f1.f0), .int .i64 ((rd_T38 l0_6 x76_3).f1.f1)] 38 (0, 0)) (by (with_reducible repeat (first | refine blk_drewN ?_ _ | refine blk_drew ?_ | refine blk_alloc ?_ _)); refine blk_put (cs := #[.string ((rd_T38 l0_6 x76_3).f0), .int .i64 ((rd_T38 l0_6 x76_3).f1.f0), .int .i64 0]) ?_ 2 _ rfl; (with_reducible repeat (first | refine blk_drewN ?_ _ | refine blk_drew ?_ | refine blk_alloc ?_ _)); refine blk_put (cs := #[.string ((rd_T38 l0_6 x76_3).f0), .int .i64 0, .int .i64 0]) ?_ 1 _ rfl; (with_reducible repeat (first | refine blk_drewN ?_ _ | refine blk_drew ?_ | refine blk_alloc ?_ _)); refine blk_put (cs := #[.string (⟨#[]⟩ : ByteArray), .int .i64 0, .int .i64 0]) ?_ 0 _ rfl; (with_reducible repeat (first | refine blk_drewN ?_ _ | refine blk_drew ?_ | refine blk_alloc ?_ _)); exact BK162.out) hb); replace HB := hs_ HB hb; (try clear hb); (try clear hi)))
                 go_ret
                 exact ⟨by first | rfl | (simp [errW_none, errW_some] <;> rfl) | (simp [*, errW_none, errW_some] <;> rfl), by repeat (first | (with_reducible first | exact HB.out | apply below_alloc | apply pw_below_drewN | apply below_drew1 | refine below_set ?_ GE157.out | refine below_set ?_ GE162.out) | exact HB.out)⟩
             · rw [if_neg c67] at H
               exact absurd H (by simp)
           · rw [if_neg c66] at H
             exact absurd H (by simp)
         · rw [if_neg c65] at H
           have c65b0 : decide (x76_3 < (l0_6.length : Int)) = false := decide_eq_false c65
           clear c65
           have H' := Aside0.mk H
           clear H
           refine blk9_ BK157.out fun hcz78_0 hcz78_1 hcz78_2 hcz78_3 hcz78_4 hcz78_5 hcz78_6 hcz78_7 hcz78_8 hfz78_0 hfz78_1 hfz78_2 hfz78_3 hfz78_4 hfz78_5 hfz78_6 hfz78_7 hfz78_8 => ?_
           go_wp2
           go_loopg [88] k3 (fun kq v88 w' => ∃ (x88_4 : Int), v88 = .int .i64 x88_4 ∧ Aside0 (command_Right.l1 kq l0_7 (l0_7.length : Int) x88_4 a0_0 a0_1 a0_2 a0_3 a0_4 a0_5 l0_6 l0_7 a0_8 = some r) ∧ Aside0 (kq ≤ k3) ∧ Aside0 (w'.heap[gb157]? = some (.cells #[.int .i64 a0_0, .int .i64 a0_1, .int .i64 a0_2, .int .i64 a0_3, .int .i64 a0_4, .int .i64 a0_5, (.slice A0_6 l0_6.length c0_6), (.slice A0_7 l0_7.length c0_7), .bool a0_8] 29 (0, 0))) ∧ Aside0 (Below w.heap.size w w'))
           case atStart => exact ⟨(0), sm_, H', ⟨Nat.le_refl _⟩, ⟨by (with_reducible repeat (first | refine blk_drewN ?_ _ | refine blk_drew ?_ | refine blk_alloc ?_ _)); exact BK157.out⟩, ⟨by repeat (first | (with_reducible first | exact HB.out | apply below_alloc | apply pw_below_drewN | apply below_drew1 | refine below_set ?_ GE157.out) | exact HB.out)⟩⟩
           case round =>
            clear H'
            try clear c1
            try clear p1
            try clear q1
            try clear hx1
            try clear c2
            try clear p2
            try clear c3
            try clear c4
            try clear c5
            try clear c5b0
            try clear c5b1
            try clear c6
            try clear p6
            try clear c7
            try clear c9
            try clear c9b0
            try clear c9b1
            try clear c10
            try clear c10b0
            try clear c10b1
            try clear c13
            try clear c14
            try clear c15
            try clear c16
            try clear c16b0
            try clear p16
            try clear q16
            try clear hx16
            try clear c22
            try clear c22b0
            try clear c22b1
            try clear c23
            try clear c23b0
            try clear c25
            try clear c27
            try clear c29
            try clear c29b0
            try clear c35
            try clear c35b0
            try clear c35b1
            try clear c41
            try clear c63
            try clear p64
            try clear c65
            try clear c65b0
            try clear c66
            try clear c66b0
            try clear c67
            try clear c67b0
            try clear c69
            try clear c71
            try clear c75
            try clear hcz17_0 hcz17_1 hcz17_2 hcz17_3 hcz17_4 hcz17_5 hcz17_6 hcz17_7 hcz17_8
            try clear hcz19_0 hcz19_1 hcz19_2 hcz19_3 hcz19_4 hcz19_5 hcz19_6 hcz19_7 hcz19_8
            try clear hcz21_0 hcz21_1 hcz21_2 hcz21_3 hcz21_4 hcz21_5 hcz21_6 hcz21_7 hcz21_8
            try clear hcz24_0 hcz24_1 hcz24_2 hcz24_3 hcz24_4 hcz24_5 hcz24_6 hcz24_7 hcz24_8
            try clear hcz26_0 hcz26_1 hcz26_2 hcz26_3 hcz26_4 hcz26_5 hcz26_6 hcz26_7 hcz26_8
            try clear hcz28_0 hcz28_1 hcz28_2 hcz28_3 hcz28_4 hcz28_5 hcz28_6 hcz28_7 hcz28_8
            try clear hcz30_0 hcz30_1 hcz30_2 hcz30_3 hcz30_4 hcz30_5 hcz30_6 hcz30_7 hcz30_8
            try clear hcz32_0 hcz32_1 hcz32_2 hcz32_3 hcz32_4 hcz32_5 hcz32_6 hcz32_7 hcz32_8
            try clear hcz34_0 hcz34_1 hcz34_2 hcz34_3 hcz34_4 hcz34_5 hcz34_6 hcz34_7 hcz34_8
            try clear hcz36_0 hcz36_1 hcz36_2 hcz36_3 hcz36_4 hcz36_5 hcz36_6 hcz36_7 hcz36_8
            try clear hcz38_0 hcz38_1 hcz38_2 hcz38_3 hcz38_4 hcz38_5 hcz38_6 hcz38_7 hcz38_8
            try clear hcz40_0 hcz40_1 hcz40_2 hcz40_3 hcz40_4 hcz40_5 hcz40_6 hcz40_7 hcz40_8
            try clear hcz42_0 hcz42_1 hcz42_2 hcz42_3 hcz42_4 hcz42_5 hcz42_6 hcz42_7 hcz42_8
            try clear hcz44_0 hcz44_1 hcz44_2 hcz44_3 hcz44_4 hcz44_5 hcz44_6 hcz44_7 hcz44_8
            try clear hcz46_0 hcz46_1 hcz46_2 hcz46_3 hcz46_4 hcz46_5 hcz46_6 hcz46_7 hcz46_8
            try clear hcz47_0 hcz47_1 hcz47_2 hcz47_3 hcz47_4 hcz47_5 hcz47_6 hcz47_7 hcz47_8
            try clear hcz49_0 hcz49_1 hcz49_2 hcz49_3 hcz49_4 hcz49_5 hcz49_6 hcz49_7 hcz49_8
            try clear hcz4_0 hcz4_1 hcz4_2 hcz4_3 hcz4_4 hcz4_5 hcz4_6 hcz4_7 hcz4_8
            try clear hcz51_0 hcz51_1 hcz51_2 hcz51_3 hcz51_4 hcz51_5 hcz51_6 hcz51_7 hcz51_8
            try clear hcz52_0 hcz52_1 hcz52_2 hcz52_3 hcz52_4 hcz52_5 hcz52_6 hcz52_7 hcz52_8
            try clear hcz54_0 hcz54_1 hcz54_2 hcz54_3 hcz54_4 hcz54_5 hcz54_6 hcz54_7 hcz54_8
            try clear hcz56_0 hcz56_1 hcz56_2 hcz56_3 hcz56_4 hcz56_5 hcz56_6 hcz56_7 hcz56_8
            try clear hcz57_0 hcz57_1 hcz57_2 hcz57_3 hcz57_4 hcz57_5 hcz57_6 hcz57_7 hcz57_8
            try clear hcz59_0 hcz59_1 hcz59_2 hcz59_3 hcz59_4 hcz59_5 hcz59_6 hcz59_7 hcz59_8
            try clear hcz61_0 hcz61_1 hcz61_2 hcz61_3 hcz61_4 hcz61_5 hcz61_6 hcz61_7 hcz61_8
            try clear hcz64_0 hcz64_1 hcz64_2 hcz64_3 hcz64_4 hcz64_5 hcz64_6 hcz64_7 hcz64_8
            try clear hcz72_0 hcz72_1 hcz72_2
            try clear hcz76_0 hcz76_1 hcz76_2
            try clear hcz78_0 hcz78_1 hcz78_2 hcz78_3 hcz78_4 hcz78_5 hcz78_6 hcz78_7 hcz78_8
            try clear hfz17_0 hfz17_1 hfz17_2 hfz17_3 hfz17_4 hfz17_5 hfz17_6 hfz17_7 hfz17_8
            try clear hfz19_0 hfz19_1 hfz19_2 hfz19_3 hfz19_4 hfz19_5 hfz19_6 hfz19_7 hfz19_8
            try clear hfz21_0 hfz21_1 hfz21_2 hfz21_3 hfz21_4 hfz21_5 hfz21_6 hfz21_7 hfz21_8
            try clear hfz24_0 hfz24_1 hfz24_2 hfz24_3 hfz24_4 hfz24_5 hfz24_6 hfz24_7 hfz24_8
            try clear hfz26_0 hfz26_1 hfz26_2 hfz26_3 hfz26_4 hfz26_5 hfz26_6 hfz26_7 hfz26_8
            try clear hfz28_0 hfz28_1 hfz28_2 hfz28_3 hfz28_4 hfz28_5 hfz28_6 hfz28_7 hfz28_8
            try clear hfz30_0 hfz30_1 hfz30_2 hfz30_3 hfz30_4 hfz30_5 hfz30_6 hfz30_7 hfz30_8
            try clear hfz32_0 hfz32_1 hfz32_2 hfz32_3 hfz32_4 hfz32_5 hfz32_6 hfz32_7 hfz32_8
            try clear hfz34_0 hfz34_1 hfz34_2 hfz34_3 hfz34_4 hfz34_5 hfz34_6 hfz34_7 hfz34_8
            try clear hfz36_0 hfz36_1 hfz36_2 hfz36_3 hfz36_4 hfz36_5 hfz36_6 hfz36_7 hfz36_8
            try clear hfz38_0 hfz38_1 hfz38_2 hfz38_3 hfz38_4 hfz38_5 hfz38_6 hfz38_7 hfz38_8
            try clear hfz40_0 hfz40_1 hfz40_2 hfz40_3 hfz40_4 hfz40_5 hfz40_6 hfz40_7 hfz40_8
            try clear hfz42_0 hfz42_1 hfz42_2 hfz42_3 hfz42_4 hfz42_5 hfz42_6 hfz42_7 hfz42_8
            try clear hfz44_0 hfz44_1 hfz44_2 hfz44_3 hfz44_4 hfz44_5 hfz44_6 hfz44_7 hfz44_8
            try clear hfz46_0 hfz46_1 hfz46_2 hfz46_3 hfz46_4 hfz46_5 hfz46_6 hfz46_7 hfz46_8
            try clear hfz47_0 hfz47_1 hfz47_2 hfz47_3 hfz47_4 hfz47_5 hfz47_6 hfz47_7 hfz47_8
            try clear hfz49_0 hfz49_1 hfz49_2 hfz49_3 hfz49_4 hfz49_5 hfz49_6 hfz49_7 hfz49_8
            try clear hfz4_0 hfz4_1 hfz4_2 hfz4_3 hfz4_4 hfz4_5 hfz4_6 hfz4_7 hfz4_8
            try clear hfz51_0 hfz51_1 hfz51_2 hfz51_3 hfz51_4 hfz51_5 hfz51_6 hfz51_7 hfz51_8
            try clear hfz52_0 hfz52_1 hfz52_2 hfz52_3 hfz52_4 hfz52_5 hfz52_6 hfz52_7 hfz52_8
            try clear hfz54_0 hfz54_1 hfz54_2 hfz54_3 hfz54_4 hfz54_5 hfz54_6 hfz54_7 hfz54_8
            try clear hfz56_0 hfz56_1 hfz56_2 hfz56_3 hfz56_4 hfz56_5 hfz56_6 hfz56_7 hfz56_8
            try clear hfz57_0 hfz57_1 hfz57_2 hfz57_3 hfz57_4 hfz57_5 hfz57_6 hfz57_7 hfz57_8
            try clear hfz59_0 hfz59_1 hfz59_2 hfz59_3 hfz59_4 hfz59_5 hfz59_6 hfz59_7 hfz59_8
            try clear hfz61_0 hfz61_1 hfz61_2 hfz61_3 hfz61_4 hfz61_5 hfz61_6 hfz61_7 hfz61_8
            try clear hfz64_0 hfz64_1 hfz64_2 hfz64_3 hfz64_4 hfz64_5 hfz64_6 hfz64_7 hfz64_8
            try clear hfz72_0 hfz72_1 hfz72_2
            try clear hfz76_0 hfz76_1 hfz76_2
            try clear hfz78_0 hfz78_1 hfz78_2 hfz78_3 hfz78_4 hfz78_5 hfz78_6 hfz78_7 hfz78_8
            try clear hx161_0
            try clear hx161_1
            try clear hx161_2
            try clear p161
            try clear p2
            try clear p6
            try clear q161
            (try clear BK157)
            obtain ⟨x88_4, rfl, HA, HK4, BK157, HB⟩ := hrel
            cases gk with
            | zero => exact absurd HA.out (by simp [command_Right.l1])
            | succ k4 =>
             have H := HA.out
             clear HA
             simp only [command_Right.l1] at H
             by_cases c79 : x88_4 < (l0_7.length : Int)
             · rw [if_pos c79] at H
               have c79b0 : decide (x88_4 < (l0_7.length : Int)) = true := decide_eq_true c79
               clear c79
               by_cases c80 : 0 ≤ x88_4
               · rw [if_pos c80] at H
                 have c80b0 : decide (0 ≤ x88_4) = true := decide_eq_true c80
                 clear c80
                 by_cases c81 : x88_4 < (l0_7.length : Int)
                 · rw [if_pos c81] at H
                   have c81b0 : decide (x88_4 < (l0_7.length : Int)) = true := decide_eq_true c81
                   clear c81
                   by_cases c82 : (((rd_T40 l0_7 x88_4).f1).size : Int) > 8
                   · rw [if_pos c82] at H
                     have c82b0 : decide (8 < (((rd_T40 l0_7 x88_4).f1).size : Int)) = true := decide_eq_true c82
                     have c82b1 : decide (8 < ((rd_T40 l0_7 x88_4).f1).size) = true := decide_eq_true (by omega)
                     clear c82
                     obtain rfl := Option.some.inj H
                     have p164 : 0 ≤ (x88_4 : Int) := of_decide_eq_true (by first | (with_reducible assumption) | assumption)
                     have q164 : x88_4 < (l0_7.length : Int) := of_decide_eq_true (by first | (with_reducible assumption) | assumption)
                     obtain ⟨ad164, e164, hx164_0, hx164_1⟩ := at_T40 HR0_7.out x88_4 p164 q164
                     cases e164
                     replace hx164_0 := (HB.out.cell (World.block_lt_of_cell? w _ hx164_0)).trans hx164_0
                     replace hx164_1 := (HB.out.cell (World.block_lt_of_cell? w _ hx164_1)).trans hx164_1
                     replace p164 := eq_true p164
                     replace q164 := eq_true q164
                     go_wp2_with (first | ((with_reducible refine gate_dst (N := 7) rfl ?_); (try (refine gate_guard (by rfl) ?_; dsimp only)); refine bx_ 7 40 #[.string (⟨#[]⟩ : ByteArray), .string (⟨#[]⟩ : ByteArray)] ?_; intro gb165 hg w83 hbox hb; have BK165 := Aside0.mk hbox; have GE165 := ge_ HB hg; have NB157_165 := na_ hg BK157; have NB165_157 := nb_ hg BK157; replace BK157 := bb_ BK157 hb; replace HB := hs_ HB hb; clear hb hbox hg; refine ne2_ NB165_157 fun hnb84 hnc84 => ?_; refine blk2_ BK165.out fun hcz85_0 hcz85_1 hfz85_0 hfz85_1 => ?_))
                     go_ret
                     exact ⟨by first | rfl | (simp [errW_none, errW_some] <;> rfl) | (simp [*, errW_none, errW_some] <;> rfl), by repeat (first | (with_reducible first | exact HB.out | apply below_alloc | apply pw_below_drewN | apply below_drew1 | refine below_set ?_ GE157.out | refine below_set ?_ GE165.out) | exact HB.out)⟩
                   · rw [if_neg c82] at H
                     have c82b0 : decide (8 < (((rd_T40 l0_7 x88_4).f1).size : Int)) = false := decide_eq_false c82
                     have c82b1 : decide (8 < ((rd_T40 l0_7 x88_4).f1).size) = false := decide_eq_false (by omega)
                     clear c82
                     have H' := Aside0.mk H
                     clear H
                     have p164 : 0 ≤ (x88_4 : Int) := of_decide_eq_true (by first | (with_reducible assumption) | assumption)
                     have q164 : x88_4 < (l0_7.length : Int) := of_decide_eq_true (by first | (with_reducible assumption) | assumption)
                     obtain ⟨ad164, e164, hx164_0, hx164_1⟩ := at_T40 HR0_7.out x88_4 p164 q164
                     cases e164
                     replace hx164_0 := (HB.out.cell (World.block_lt_of_cell? w _ hx164_0)).trans hx164_0
                     replace hx164_1 := (HB.out.cell (World.block_lt_of_cell? w _ hx164_1)).trans hx164_1
                     replace p164 := eq_true p164
                     replace q164 := eq_true q164
                     go_wp2_with (first | ((with_reducible refine gate_dst (N := 7) rfl ?_); (try (refine gate_guard (by rfl) ?_; dsimp only)); refine bx_ 7 40 #[.string (⟨#[]⟩ : ByteArray), .string (⟨#[]⟩ : ByteArray)] ?_; intro gb165 hg w86 hbox hb; have BK165 := Aside0.mk hbox; have GE165 := ge_ HB hg; have NB157_165 := na_ hg BK157; have NB165_157 := nb_ hg BK157; replace BK157 := bb_ BK157 hb; replace HB := hs_ HB hb; clear hb hbox hg; refine ne2_ NB165_157 fun hnb87 hnc87 => ?_; refine blk2_ BK165.out fun hcz88_0 hcz88_1 hfz88_0 hfz88_1 => ?_))
                     go_roundg k4
                     case measure => have := HJ1.out; have := HJ10.out; have := HK3.out; have := HK4.out; omega
                     case rel => exact ⟨(wrap64 (x88_4 + 1)), sm_, H', ⟨by have := HJ1.out; have := HJ10.out; have := HK3.out; have := HK4.out; omega⟩, ⟨by (with_reducible repeat (first | refine blk_drewN ?_ _ | refine blk_drew ?_ | refine blk_alloc ?_ _)); refine blk_far ?_ NB157_165.out _; (with_reducible repeat (first | refine blk_drewN ?_ _ | refine blk_drew ?_ | refine blk_alloc ?_ _)); refine blk_far ?_ NB157_165.out _; (with_reducible repeat (first | refine blk_drewN ?_ _ | refine blk_drew ?_ | refine blk_alloc ?_ _)); exact BK157.out⟩, ⟨by repeat (first | (with_reducible first | exact HB.out | apply below_alloc | apply pw_below_drewN | apply below_drew1 | refine below_set ?_ GE157.out | refine below_set ?_ GE165.out) | exact HB.out)⟩⟩
                 · rw [if_neg c81] at H
                   exact absurd H (by simp)
               · rw [if_neg c80] at H
                 exact absurd H (by simp)
             · rw [if_neg c79] at H
               have c79b0 : decide (x88_4 < (l0_7.length : Int)) = false := decide_eq_false c79
               clear c79
               obtain ⟨t166, A89, H⟩ := bs_ H
               obtain ⟨t169, A90, H⟩ := bs_ H
               by_cases c91 : t169 = true
               · subst c91
                 rw [if_pos rfl] at H
                 obtain ⟨t170, A92, H⟩ := bs_ H
                 obtain ⟨t173, A93, H⟩ := bs_ H
                 obtain rfl := Option.some.inj H
                 go_wp2_with (first | ((with_reducible refine gate_dst (N := 97) rfl ?_); (try (refine gate_guard (by rfl) ?_; dsimp only)); refine bl_ 97 BK157.out ⟨_, Try.underlying29, rfl⟩ ?_) | ((with_reducible refine gate_callee (f := 32) rfl ?_); refine gl_ (some 98) Try.func32 #[.agg #[.int .i64 a0_0, .int .i64 a0_1, .int .i64 a0_2, .int .i64 a0_3, .int .i64 a0_4, .int .i64 a0_5, .slice A0_6 l0_6.length c0_6, .slice A0_7 l0_7.length c0_7, .bool a0_8]] ?_; (with_reducible refine (command_read.calls k4 a0_0 a0_1 a0_2 a0_3 a0_4 a0_5 _ _ l0_6 _ _ l0_7 a0_8 t166 _ ?side1 ?side2 ?side3 ?side4 A89.out).mono ?_); (case side1 => exact kc_ (Kd.C_below HR0_6.out HB.out)); (case side2 => exact HC0_6.out); (case side3 => exact kc_ (Kd.C_below HR0_7.out HB.out)); (case side4 => exact HC0_7.out); rintro e w95 ⟨v167, rfl, ho0, hb⟩; refine ⟨_, rfl, ?_⟩; have HO168 := Aside0.mk (Kd.R_lower ho0 (below_size lbt_)); replace BK157 := bb_ BK157 hb; replace HB := hs_ HB hb; (try clear hb); (try clear ho0); obtain ⟨Ao96, co96, eo96⟩ := Kd.R_slice HO168.out; subst eo96) | ((with_reducible refine gate_callee (f := 31) rfl ?_); refine gl_ (some 99) Try.func31 #[.slice Ao96 t166.length co96] ?_; (with_reducible refine (keys_Rights.calls k4 _ _ t166 true _ ?side1 ?side2 A90.out).mono ?_); (case side1 => repeat (first | exact (Kd.R_reads' HO168.out).2.2 | (with_reducible refine Kd.C_alloc ?_ _) | (with_reducible refine Kd.C_drewN ?_ _) | (with_reducible refine Kd.C_drew ?_))); (case side2 => exact (Kd.R_reads' HO168.out).2.1); rintro e w' ⟨rfl, ⟨nd, rfl⟩⟩; refine ⟨_, rfl, ?_⟩) | ((with_reducible refine gate_dst (N := 101) rfl ?_); (try (refine gate_guard (by rfl) ?_; dsimp only)); refine bl_ 101 BK157.out ⟨_, Try.underlying29, rfl⟩ ?_) | (go_at_call 33; (with_reducible refine (command_written.calls k4 a0_0 a0_1 a0_2 a0_3 a0_4 a0_5 _ _ l0_6 _ _ l0_7 a0_8 t170 _ ?side1 ?side2 ?side3 ?side4 A92.out).mono ?_); (case side1 => repeat (first | exact (Kd.C_below HR0_6.out lbt_) | (with_reducible refine Kd.C_alloc ?_ _) | (with_reducible refine Kd.C_drewN ?_ _) | (with_reducible refine Kd.C_drew ?_))); (case side2 => exact HC0_6.out); (case side3 => repeat (first | exact (Kd.C_below HR0_7.out lbt_) | (with_reducible refine Kd.C_alloc ?_ _) | (with_reducible refine Kd.C_drewN ?_ _) | (with_reducible refine Kd.C_drew ?_))); (case side4 => exact HC0_7.out); rintro e w98 ⟨v171, rfl, ho0, hb⟩; have HO172 := Aside0.mk (Kd.R_lower (Kd.R_new' ho0 (Kd.R_lt (kr_ HO168.out))) (below_size lbt_)); replace HO168 := Aside0.mk (Kd.R_elder' (kr_ HO168.out) (Kd.R_base ho0) hb); replace BK157 := bb_ BK157 hb; replace HB := hs_ HB hb; (try clear hb); (try clear ho0); obtain ⟨Ao99, co99, eo99⟩ := Kd.R_slice HO172.out; subst eo99) | (go_at_call 31; (with_reducible refine (keys_Rights.calls k4 _ _ t170 t173 _ ?side1 ?side2 A93.out).mono ?_); (case side1 => repeat (first | exact (Kd.R_reads' HO172.out).2.2 | (with_reducible refine Kd.C_alloc ?_ _) | (with_reducible refine Kd.C_drewN ?_ _) | (with_reducible refine Kd.C_drew ?_))); (case side2 => exact (Kd.R_reads' HO172.out).2.1); rintro e w' ⟨rfl, ⟨nd, rfl⟩⟩))
                 go_ret
                 exact ⟨by first | rfl | (simp [errW_none, errW_some] <;> rfl) | (simp [*, errW_none, errW_some] <;> rfl), by repeat (first | (with_reducible first | exact HB.out | apply below_alloc | apply pw_below_drewN | apply below_drew1 | refine below_set ?_ GE157.out) | exact HB.out)⟩
               · replace c91 := Bool.eq_false_iff.mpr c91
                 subst c91
                 rw [if_neg (show ¬ (false = true) by decide)] at H
                 obtain rfl := Option.some.inj H
                 go_wp2_with (first | ((with_reducible refine gate_dst (N := 97) rfl ?_); (try (refine gate_guard (by rfl) ?_; dsimp only)); refine bl_ 97 BK157.out ⟨_, Try.underlying29, rfl⟩ ?_) | ((with_reducible refine gate_callee (f := 32) rfl ?_); refine gl_ (some 98) Try.func32 #[.agg #[.int .i64 a0_0, .int .i64 a0_1, .int .i64 a0_2, .int .i64 a0_3, .int .i64 a0_4, .int .i64 a0_5, .slice A0_6 l0_6.length c0_6, .slice A0_7 l0_7.length c0_7, .bool a0_8]] ?_; (with_reducible refine (command_read.calls k4 a0_0 a0_1 a0_2 a0_3 a0_4 a0_5 _ _ l0_6 _ _ l0_7 a0_8 t166 _ ?side1 ?side2 ?side3 ?side4 A89.out).mono ?_); (case side1 => exact kc_ (Kd.C_below HR0_6.out HB.out)); (case side2 => exact HC0_6.out); (case side3 => exact kc_ (Kd.C_below HR0_7.out HB.out)); (case side4 => exact HC0_7.out); rintro e w101 ⟨v167, rfl, ho0, hb⟩; refine ⟨_, rfl, ?_⟩; have HO168 := Aside0.mk (Kd.R_lower ho0 (below_size lbt_)); replace BK157 := bb_ BK157 hb; replace HB := hs_ HB hb; (try clear hb); (try clear ho0); obtain ⟨Ao102, co102, eo102⟩ := Kd.R_slice HO168.out; subst eo102) | ((with_reducible refine gate_callee (f := 31) rfl ?_); refine gl_ (some 99) Try.func31 #[.slice Ao102 t166.length co102] ?_; (with_reducible refine (keys_Rights.calls k4 _ _ t166 false _ ?side1 ?side2 A90.out).mono ?_); (case side1 => repeat (first | exact (Kd.R_reads' HO168.out).2.2 | (with_reducible refine Kd.C_alloc ?_ _) | (with_reducible refine Kd.C_drewN ?_ _) | (with_reducible refine Kd.C_drew ?_))); (case side2 => exact (Kd.R_reads' HO168.out).2.1); rintro e w' ⟨rfl, ⟨nd, rfl⟩⟩; refine ⟨_, rfl, ?_⟩))
                 go_ret
                 exact ⟨by first | rfl | (simp [errW_none, errW_some] <;> rfl) | (simp [*, errW_none, errW_some] <;> rfl), by repeat (first | (with_reducible first | exact HB.out | apply below_alloc | apply pw_below_drewN | apply below_drew1 | refine below_set ?_ GE157.out) | exact HB.out)⟩
end Go.Proofs.Ytnjeeedndnfglaa.X
end
section
namespace Go.Proofs.Ytnjeeedndnfglaa.X
open Go.RowKit Go.Proofs.YtnjeeedndnfglaaW.PrintWords Go.Proofs.YtnjeeedndnfglaaW.PrintLast Go.Proofs.YtnjeeedndnfglaaW.PrintMore
attribute [local go_sem] max2_int min2_int max_two min_two max_three min_three max_four min_four   -- for this text's walks alone
set_option linter.unusedVariables false
set_option linter.unusedSimpArgs false
def althinglaw05_some.f  : Option (Int × Int × Int × Int × Int × Int × (List (S38)) × (List (S40)) × Bool) := some (1, 0, 1, 1, 0, 1, (([(⟨(⟨#[97]⟩ : ByteArray), (⟨0, 0⟩ : S25)⟩ : S38)] : List (S38))), (([(⟨(⟨#[98]⟩ : ByteArray), (⟨#[49]⟩ : ByteArray)⟩ : S40)] : List (S40))), false)
set_option maxHeartbeats 40000000 in
set_option maxRecDepth 100000 in
theorem althinglaw05_some.calls  (r1 : Int) (r2 : Int) (r3 : Int) (r4 : Int) (r5 : Int) (r6 : Int) (r7 : List (S38)) (r8 : List (S40)) (r9 : Bool) (w : World) (h : althinglaw05_some.f  = some (r1, r2, r3, r4, r5, r6, r7, r8, r9)) :
 Calls Try.prog 23 #[] w fun e w' => ∃ v6_ v7_ : Value, e = .returned (.agg #[.int .i64 r1, .int .i64 r2, .int .i64 r3, .int .i64 r4, .int .i64 r5, .int .i64 r6, v6_, v7_, .bool r9]) ∧ Kd.R k38 38 w' w.heap.size (fun _ => True) v6_ r7 ∧ Kd.R k40 40 w' w.heap.size (fun _ => True) v7_ r8 ∧ Below w.heap.size w w' := by
 have hu29 := Try.underlying29
 have hu23 := Try.underlying23
 have hu25 := Try.underlying25
 have hu38 := Try.underlying38
 have hu40 := Try.underlying40
 have HB := Aside0.mk (Below.refl w.heap.size w)
 have H : (some (1, 0, 1, 1, 0, 1, (([(⟨(⟨#[97]⟩ : ByteArray), (⟨0, 0⟩ : S25)⟩ : S38)] : List (S38))), (([(⟨(⟨#[98]⟩ : ByteArray), (⟨#[49]⟩ : ByteArray)⟩ : S40)] : List (S40))), false)) = some (r1, r2, r3, r4, r5, r6, r7, r8, r9) := h
 clear h
 obtain ⟨y175, hy175⟩ : ∃ y_ : List (S38), y_ = (([(⟨(⟨#[97]⟩ : ByteArray), (⟨0, 0⟩ : S25)⟩ : S38)] : List (S38))) := ⟨_, rfl⟩
 replace H : (some (1, 0, 1, 1, 0, 1, y175, (([(⟨(⟨#[98]⟩ : ByteArray), (⟨#[49]⟩ : ByteArray)⟩ : S40)] : List (S40))), false)) = some (r1, r2, r3, r4, r5, r6, r7, r8, r9) := by first | (rw [hy175]; with_reducible exact H) | (have H2_ := (Option.bind_some _ _).symm.trans H; rw [hy175]; with_reducible exact H2_) | (have H2_ := (Option.bind_some _ _).symm.trans H; with_reducible exact H2_) | with_reducible exact H | (rw [hy175]; exact H) | exact H
 have Ny175 := Aside0.mk hy175
 clear hy175
 obtain ⟨y178, hy178⟩ : ∃ y_ : List (S40), y_ = (([(⟨(⟨#[98]⟩ : ByteArray), (⟨#[49]⟩ : ByteArray)⟩ : S40)] : List (S40))) := ⟨_, rfl⟩
 replace H : (some (1, 0, 1, 1, 0, 1, y175, y178, false)) = some (r1, r2, r3, r4, r5, r6, r7, r8, r9) := by first | (rw [hy178]; with_reducible exact H) | (have H2_ := (Option.bind_some _ _).symm.trans H; rw [hy178]; with_reducible exact H2_) | (have H2_ := (Option.bind_some _ _).symm.trans H; with_reducible exact H2_) | with_reducible exact H | (rw [hy178]; exact H) | exact H
 have Ny178 := Aside0.mk hy178
 clear hy178
 simp only [Option.some.injEq, Prod.mk.injEq] at H
 obtain ⟨rfl, rfl, rfl, rfl, rfl, rfl, rfl, rfl, rfl⟩ := H
 go_enter Try.func23, Try.ntmps23
 go_wp2_with (first | ((with_reducible refine gate_dst (N := 0) rfl ?_); refine bx_ 0 29 #[.int .i64 0, .int .i64 0, .int .i64 0, .int .i64 0, .int .i64 0, .int .i64 0, .slice none 0 0, .slice none 0 0, .bool false] ?_; intro gb174 hg w1 hbox hb; have BK174 := Aside0.mk hbox; have GE174 := ge_ HB hg; replace HB := hs_ HB hb; clear hb hbox hg) | ((with_reducible refine gate_dst (N := 4) rfl ?_); refine Kd.R_lit k38 _ 38 ?hg (N := 4) ?hd (xs := ([(⟨(⟨#[97]⟩ : ByteArray), (⟨0, 0⟩ : S25)⟩ : S38)] : List (S38))) (inner := [.string (⟨#[97]⟩ : ByteArray), .int .i64 0, .int .i64 0]) (ok := fun _ => True) (okp := fun _ => True) ?hr ?hp (fun _ hk => hk) trivial (Below.refl _ _) (Nat.le_refl _) (by simp) ?_; (case hd => rfl); (case hg => rfl); (case hr => first | (go_simp; done) | (go_simp; rfl)); (case hp => exact (Reps.c3 (show Kd.M k38 _ _ _ (⟨(⟨#[97]⟩ : ByteArray), (⟨0, 0⟩ : S25)⟩ : S38) [.string (⟨#[97]⟩ : ByteArray), .int .i64 0, .int .i64 0] from (k38_mkM _ _ _ (⟨(⟨#[97]⟩ : ByteArray), (⟨0, 0⟩ : S25)⟩ : S38) )) (Reps.none _ _))); intro v176 w2 ho3 hb hg_ hnew_; clear hg_ hnew_; (first | rw [← Ny175.out] at ho3 | (simp only [Int.reduceToNat] at ho3; rw [← Ny175.out] at ho3)); have HO177 := Aside0.mk (Kd.R_lower ho3 (below_size lbt_)); replace BK174 := bb_ BK174 hb; replace HB := hs_ HB hb; clear hb ho3) | ((with_reducible refine gate_dst (N := 6) rfl ?_); refine Kd.R_lit k40 _ 40 ?hg (N := 6) ?hd (xs := ([(⟨(⟨#[98]⟩ : ByteArray), (⟨#[49]⟩ : ByteArray)⟩ : S40)] : List (S40))) (inner := [.string (⟨#[98]⟩ : ByteArray), .string (⟨#[49]⟩ : ByteArray)]) (ok := fun _ => True) (okp := fun _ => True) ?hr ?hp (fun _ hk => hk) trivial (Below.refl _ _) (Nat.le_refl _) (by simp) ?_; (case hd => rfl); (case hg => rfl); (case hr => first | (go_simp; done) | (go_simp; rfl)); (case hp => exact (Reps.c2 (show Kd.M k40 _ _ _ (⟨(⟨#[98]⟩ : ByteArray), (⟨#[49]⟩ : ByteArray)⟩ : S40) [.string (⟨#[98]⟩ : ByteArray), .string (⟨#[49]⟩ : ByteArray)] from (k40_mkM _ _ _ (⟨(⟨#[98]⟩ : ByteArray), (⟨#[49]⟩ : ByteArray)⟩ : S40) )) (Reps.none _ _))); intro v179 w4 ho5 hb hg_ hnew_; clear hg_ hnew_; (first | rw [← Ny178.out] at ho5 | (simp only [Int.reduceToNat] at ho5; rw [← Ny178.out] at ho5)); have HO180 := Aside0.mk (Kd.R_lower ho5 (below_size lbt_)); replace HO177 := rb_ HO177 hb; replace BK174 := bb_ BK174 hb; replace HB := hs_ HB hb; clear hb ho5; obtain ⟨Ao6, co6, eo6⟩ := Kd.R_slice HO180.out; subst eo6; obtain ⟨Ao7, co7, eo7⟩ := Kd.R_slice HO177.out; subst eo7; refine blk9_ BK174.out fun hcz8_0 hcz8_1 hcz8_2 hcz8_3 hcz8_4 hcz8_5 hcz8_6 hcz8_7 hcz8_8 hfz8_0 hfz8_1 hfz8_2 hfz8_3 hfz8_4 hfz8_5 hfz8_6 hfz8_7 hfz8_8 => ?_) | ((with_reducible refine gate_store (t := 29) (p := 0) rfl ?_); refine store_event (t := 29) (p := 0) (v := ?vo_w9) (w1 := (((((((((w4.setCell ⟨gb174, 0, none⟩ (.int .i64 1)).setCell ⟨gb174, 1, none⟩ (.int .i64 0)).setCell ⟨gb174, 2, none⟩ (.int .i64 1)).setCell ⟨gb174, 3, none⟩ (.int .i64 1)).setCell ⟨gb174, 4, none⟩ (.int .i64 0)).setCell ⟨gb174, 5, none⟩ (.int .i64 1)).setCell ⟨gb174, 6, none⟩ (.slice Ao7 y175.length co7)).setCell ⟨gb174, 7, none⟩ (.slice Ao6 y178.length co6)).setCell ⟨gb174, 8, none⟩ (.bool false))) ?hg ?ho ?hn ?hr ?_; (case ho => rfl); (case hg => rfl); (case hn => rfl); (case hr => first | (go_simp; done) | (go_simp; rfl)); intro w9 hw; have n0_ : Aside0 (Kd.R k38 38 w9 w.heap.size (fun _ => True) (.slice Ao7 y175.length co7) y175) := ⟨(by rw [hw]; exact (by (with_reducible repeat (first | apply Kd.R_alloc | apply Kd.R_drewN | apply Kd.R_drew)); exact Kd.R_mono (Kd.R_far (p := ⟨gb174, 8, none⟩) (Kd.R_far (p := ⟨gb174, 7, none⟩) (Kd.R_far (p := ⟨gb174, 6, none⟩) (Kd.R_far (p := ⟨gb174, 5, none⟩) (Kd.R_far (p := ⟨gb174, 4, none⟩) (Kd.R_far (p := ⟨gb174, 3, none⟩) (Kd.R_far (p := ⟨gb174, 2, none⟩) (Kd.R_far (p := ⟨gb174, 1, none⟩) (Kd.R_far (p := ⟨gb174, 0, none⟩) (Kd.R_types HO177.out BK174.out (by decide)) (fun _ hk => hk.2) (.int .i64 1)) (fun _ hk => hk.2) (.int .i64 0)) (fun _ hk => hk.2) (.int .i64 1)) (fun _ hk => hk.2) (.int .i64 1)) (fun _ hk => hk.2) (.int .i64 0)) (fun _ hk => hk.2) (.int .i64 1)) (fun _ hk => hk.2) (.slice Ao7 y175.length co7)) (fun _ hk => hk.2) (.slice Ao6 y178.length co6)) (fun _ hk => hk.2) (.bool false)) (fun _ hk => trivial)))⟩; have n1_ : Aside0 (Kd.R k40 40 w9 w.heap.size (fun _ => True) (.slice Ao6 y178.length co6) y178) := ⟨(by rw [hw]; exact (by (with_reducible repeat (first | apply Kd.R_alloc | apply Kd.R_drewN | apply Kd.R_drew)); exact Kd.R_mono (Kd.R_far (p := ⟨gb174, 8, none⟩) (Kd.R_far (p := ⟨gb174, 7, none⟩) (Kd.R_far (p := ⟨gb174, 6, none⟩) (Kd.R_far (p := ⟨gb174, 5, none⟩) (Kd.R_far (p := ⟨gb174, 4, none⟩) (Kd.R_far (p := ⟨gb174, 3, none⟩) (Kd.R_far (p := ⟨gb174, 2, none⟩) (Kd.R_far (p := ⟨gb174, 1, none⟩) (Kd.R_far (p := ⟨gb174, 0, none⟩) (Kd.R_types HO180.out BK174.out (by decide)) (fun _ hk => hk.2) (.int .i64 1)) (fun _ hk => hk.2) (.int .i64 0)) (fun _ hk => hk.2) (.int .i64 1)) (fun _ hk => hk.2) (.int .i64 1)) (fun _ hk => hk.2) (.int .i64 0)) (fun _ hk => hk.2) (.int .i64 1)) (fun _ hk => hk.2) (.slice Ao7 y175.length co7)) (fun _ hk => hk.2) (.slice Ao6 y178.length co6)) (fun _ hk => hk.2) (.bool false)) (fun _ hk => trivial)))⟩; have n2_ : Aside0 (w9.heap[gb174]? = some (.cells #[.int .i64 1, .int .i64 0, .int .i64 1, .int .i64 1, .int .i64 0, .int .i64 1, .slice Ao7 y175.length co7, .slice Ao6 y178.length co6, .bool false] 29 (0, 0))) := ⟨(by rw [hw]; exact (by (with_reducible repeat (first | refine blk_drewN ?_ _ | refine blk_drew ?_ | refine blk_alloc ?_ _)); refine blk_put (cs := #[.int .i64 1, .int .i64 0, .int .i64 1, .int .i64 1, .int .i64 0, .int .i64 1, .slice Ao7 y175.length co7, .slice Ao6 y178.length co6, .bool false]) ?_ 8 _ rfl; (with_reducible repeat (first | refine blk_drewN ?_ _ | refine blk_drew ?_ | refine blk_alloc ?_ _)); refine blk_put (cs := #[.int .i64 1, .int .i64 0, .int .i64 1, .int .i64 1, .int .i64 0, .int .i64 1, .slice Ao7 y175.length co7, .slice none 0 0, .bool false]) ?_ 7 _ rfl; (with_reducible repeat (first | refine blk_drewN ?_ _ | refine blk_drew ?_ | refine blk_alloc ?_ _)); refine blk_put (cs := #[.int .i64 1, .int .i64 0, .int .i64 1, .int .i64 1, .int .i64 0, .int .i64 1, .slice none 0 0, .slice none 0 0, .bool false]) ?_ 6 _ rfl; (with_reducible repeat (first | refine blk_drewN ?_ _ | refine blk_drew ?_ | refine blk_alloc ?_ _)); refine blk_put (cs := #[.int .i64 1, .int .i64 0, .int .i64 1, .int .i64 1, .int .i64 0, .int .i64 0, .slice none 0 0, .slice none 0 0, .bool false]) ?_ 5 _ rfl; (with_reducible repeat (first | refine blk_drewN ?_ _ | refine blk_drew ?_ | refine blk_alloc ?_ _)); refine blk_put (cs := #[.int .i64 1, .int .i64 0, .int .i64 1, .int .i64 1, .int .i64 0, .int .i64 0, .slice none 0 0, .slice none 0 0, .bool false]) ?_ 4 _ rfl; (with_reducible repeat (first | refine blk_drewN ?_ _ | refine blk_drew ?_ | refine blk_alloc ?_ _)); refine blk_put (cs := #[.int .i64 1, .int .i64 0, .int .i64 1, .int .i64 0, .int .i64 0, .int .i64 0, .slice none 0 0, .slice none 0 0, .bool false]) ?_ 3 _ rfl; (with_reducible repeat (first | refine blk_drewN ?_ _ | refine blk_drew ?_ | refine blk_alloc ?_ _)); refine blk_put (cs := #[.int .i64 1, .int .i64 0, .int .i64 0, .int .i64 0, .int .i64 0, .int .i64 0, .slice none 0 0, .slice none 0 0, .bool false]) ?_ 2 _ rfl; (with_reducible repeat (first | refine blk_drewN ?_ _ | refine blk_drew ?_ | refine blk_alloc ?_ _)); refine blk_put (cs := #[.int .i64 1, .int .i64 0, .int .i64 0, .int .i64 0, .int .i64 0, .int .i64 0, .slice none 0 0, .slice none 0 0, .bool false]) ?_ 1 _ rfl; (with_reducible repeat (first | refine blk_drewN ?_ _ | refine blk_drew ?_ | refine blk_alloc ?_ _)); refine blk_put (cs := #[.int .i64 0, .int .i64 0, .int .i64 0, .int .i64 0, .int .i64 0, .int .i64 0, .slice none 0 0, .slice none 0 0, .bool false]) ?_ 0 _ rfl; (with_reducible repeat (first | refine blk_drewN ?_ _ | refine blk_drew ?_ | refine blk_alloc ?_ _)); exact BK174.out))⟩; have n3_ : Aside0 (Below w.heap.size w w9) := ⟨(by rw [hw]; exact lbt_)⟩; clear hw HO177 HO180 BK174 HB; have HO177 := n0_; have HO180 := n1_; have BK174 := n2_; have HB := n3_; clear n0_ n1_ n2_ n3_))
 refine bodyPost_ret (results_cell_row rfl _ _ gb174 29 #[.int .i64 1, .int .i64 0, .int .i64 1, .int .i64 1, .int .i64 0, .int .i64 1, .slice Ao7 y175.length co7, .slice Ao6 y178.length co6, .bool false] (0, 0) _ rfl (kb_ BK174.out) Try.underlying29 rfl (by kernel_rfl)) rfl ?_
 exact ⟨_, _, by first | rfl | (simp [errW_none, errW_some] <;> rfl) | (simp [*, errW_none, errW_some] <;> rfl), by (with_reducible repeat (first | apply Kd.R_alloc | apply Kd.R_drewN | apply Kd.R_drew)); exact HO177.out, by (with_reducible repeat (first | apply Kd.R_alloc | apply Kd.R_drewN | apply Kd.R_drew)); exact HO180.out, by repeat (first | (with_reducible first | exact HB.out | apply below_alloc | apply pw_below_drewN | apply below_drew1 | refine below_set ?_ GE174.out) | exact HB.out)⟩
end Go.Proofs.Ytnjeeedndnfglaa.X
end
section
namespace Go.Proofs.Ytnjeeedndnfglaa.X
open Go.RowKit Go.Proofs.YtnjeeedndnfglaaW.PrintWords Go.Proofs.YtnjeeedndnfglaaW.PrintLast Go.Proofs.YtnjeeedndnfglaaW.PrintMore
attribute [local go_sem] max2_int min2_int max_two min_two max_three min_three max_four min_four   -- for this text's walks alone
set_option linter.unusedVariables false
set_option linter.unusedSimpArgs false
def althinglaw05_awake.f (k : Nat)  : Option (Bool) := (althinglaw05_some.f).bind fun bt181 => ((command_Right.f k bt181.1 bt181.2.1 bt181.2.2.1 bt181.2.2.2.1 bt181.2.2.2.2.1 bt181.2.2.2.2.2.1 bt181.2.2.2.2.2.2.1 bt181.2.2.2.2.2.2.2.1 bt181.2.2.2.2.2.2.2.2).bind fun t194 => (if t194 = true then ((althinglaw05_some.f).bind fun bt195 => ((althinglaw05_some.f).bind fun bt208 => ((command_Interfere.f k bt195.1 bt195.2.1 bt195.2.2.1 bt195.2.2.2.1 bt195.2.2.2.2.1 bt195.2.2.2.2.2.1 bt195.2.2.2.2.2.2.1 bt195.2.2.2.2.2.2.2.1 bt195.2.2.2.2.2.2.2.2 bt208.1 bt208.2.1 bt208.2.2.1 bt208.2.2.2.1 bt208.2.2.2.2.1 bt208.2.2.2.2.2.1 bt208.2.2.2.2.2.2.1 bt208.2.2.2.2.2.2.2.1 bt208.2.2.2.2.2.2.2.2).bind fun t221 => (if t221 = true then ((althinglaw05_some.f).bind fun bt222 => ((command_Keys.f k bt222.1 bt222.2.1 bt222.2.2.1 bt222.2.2.2.1 bt222.2.2.2.2.1 bt222.2.2.2.2.2.1 bt222.2.2.2.2.2.2.1 bt222.2.2.2.2.2.2.2.1 bt222.2.2.2.2.2.2.2.2).bind fun t235 => (if (t235.length : Int) = 2 then ((althinglaw05_some.f).bind fun bt238 => ((althinglaw05_some.f).bind fun bt251 => ((command_Same.f k bt238.1 bt238.2.1 bt238.2.2.1 bt238.2.2.2.1 bt238.2.2.2.2.1 bt238.2.2.2.2.2.1 bt238.2.2.2.2.2.2.1 bt238.2.2.2.2.2.2.2.1 bt238.2.2.2.2.2.2.2.2 bt251.1 bt251.2.1 bt251.2.2.1 bt251.2.2.2.1 bt251.2.2.2.2.1 bt251.2.2.2.2.2.1 bt251.2.2.2.2.2.2.1 bt251.2.2.2.2.2.2.2.1 bt251.2.2.2.2.2.2.2.2).bind fun t264 => (some t264)))) else (some false)))) else (some false))))) else (some false)))
set_option maxHeartbeats 40000000 in
set_option maxRecDepth 100000 in
theorem althinglaw05_awake.calls (k : Nat)  (r : Bool) (w : World) (h : althinglaw05_awake.f k  = some r) :
 Calls Try.prog 9 #[] w fun e w' => e = .returned (.bool r) ∧ Below w.heap.size w w' := by
 have HB := Aside0.mk (Below.refl w.heap.size w)
 have H : ((althinglaw05_some.f).bind fun bt181 => ((command_Right.f k bt181.1 bt181.2.1 bt181.2.2.1 bt181.2.2.2.1 bt181.2.2.2.2.1 bt181.2.2.2.2.2.1 bt181.2.2.2.2.2.2.1 bt181.2.2.2.2.2.2.2.1 bt181.2.2.2.2.2.2.2.2).bind fun t194 => (if t194 = true then ((althinglaw05_some.f).bind fun bt195 => ((althinglaw05_some.f).bind fun bt208 => ((command_Interfere.f k bt195.1 bt195.2.1 bt195.2.2.1 bt195.2.2.2.1 bt195.2.2.2.2.1 bt195.2.2.2.2.2.1 bt195.2.2.2.2.2.2.1 bt195.2.2.2.2.2.2.2.1 bt195.2.2.2.2.2.2.2.2 bt208.1 bt208.2.1 bt208.2.2.1 bt208.2.2.2.1 bt208.2.2.2.2.1 bt208.2.2.2.2.2.1 bt208.2.2.2.2.2.2.1 bt208.2.2.2.2.2.2.2.1 bt208.2.2.2.2.2.2.2.2).bind fun t221 => (if t221 = true then ((althinglaw05_some.f).bind fun bt222 => ((command_Keys.f k bt222.1 bt222.2.1 bt222.2.2.1 bt222.2.2.2.1 bt222.2.2.2.2.1 bt222.2.2.2.2.2.1 bt222.2.2.2.2.2.2.1 bt222.2.2.2.2.2.2.2.1 bt222.2.2.2.2.2.2.2.2).bind fun t235 => (if (t235.length : Int) = 2 then ((althinglaw05_some.f).bind fun bt238 => ((althinglaw05_some.f).bind fun bt251 => ((command_Same.f k bt238.1 bt238.2.1 bt238.2.2.1 bt238.2.2.2.1 bt238.2.2.2.2.1 bt238.2.2.2.2.2.1 bt238.2.2.2.2.2.2.1 bt238.2.2.2.2.2.2.2.1 bt238.2.2.2.2.2.2.2.2 bt251.1 bt251.2.1 bt251.2.2.1 bt251.2.2.2.1 bt251.2.2.2.2.1 bt251.2.2.2.2.2.1 bt251.2.2.2.2.2.2.1 bt251.2.2.2.2.2.2.2.1 bt251.2.2.2.2.2.2.2.2).bind fun t264 => (some t264)))) else (some false)))) else (some false))))) else (some false)))) = some r := h
 clear h
 replace H := Option.bind_eq_some_iff.mp H
 obtain ⟨⟨t181, t182, t183, t184, t185, t186, t187, t190, t193⟩, A10, H⟩ := H
 replace H : ((command_Right.f k t181 t182 t183 t184 t185 t186 t187 t190 t193).bind fun t194 => (if t194 = true then ((althinglaw05_some.f).bind fun bt195 => ((althinglaw05_some.f).bind fun bt208 => ((command_Interfere.f k bt195.1 bt195.2.1 bt195.2.2.1 bt195.2.2.2.1 bt195.2.2.2.2.1 bt195.2.2.2.2.2.1 bt195.2.2.2.2.2.2.1 bt195.2.2.2.2.2.2.2.1 bt195.2.2.2.2.2.2.2.2 bt208.1 bt208.2.1 bt208.2.2.1 bt208.2.2.2.1 bt208.2.2.2.2.1 bt208.2.2.2.2.2.1 bt208.2.2.2.2.2.2.1 bt208.2.2.2.2.2.2.2.1 bt208.2.2.2.2.2.2.2.2).bind fun t221 => (if t221 = true then ((althinglaw05_some.f).bind fun bt222 => ((command_Keys.f k bt222.1 bt222.2.1 bt222.2.2.1 bt222.2.2.2.1 bt222.2.2.2.2.1 bt222.2.2.2.2.2.1 bt222.2.2.2.2.2.2.1 bt222.2.2.2.2.2.2.2.1 bt222.2.2.2.2.2.2.2.2).bind fun t235 => (if (t235.length : Int) = 2 then ((althinglaw05_some.f).bind fun bt238 => ((althinglaw05_some.f).bind fun bt251 => ((command_Same.f k bt238.1 bt238.2.1 bt238.2.2.1 bt238.2.2.2.1 bt238.2.2.2.2.1 bt238.2.2.2.2.2.1 bt238.2.2.2.2.2.2.1 bt238.2.2.2.2.2.2.2.1 bt238.2.2.2.2.2.2.2.2 bt251.1 bt251.2.1 bt251.2.2.1 bt251.2.2.2.1 bt251.2.2.2.2.1 bt251.2.2.2.2.2.1 bt251.2.2.2.2.2.2.1 bt251.2.2.2.2.2.2.2.1 bt251.2.2.2.2.2.2.2.2).bind fun t264 => (some t264)))) else (some false)))) else (some false))))) else (some false))) = some r := H
 have A1 := Aside0.mk A10
 clear A10
 obtain ⟨t194, A2, H⟩ := bs_ H
 by_cases c3 : t194 = true
 · subst c3
   rw [if_pos rfl] at H
   replace H := Option.bind_eq_some_iff.mp H
   obtain ⟨⟨t195, t196, t197, t198, t199, t200, t201, t204, t207⟩, A40, H⟩ := H
   replace H : ((althinglaw05_some.f).bind fun bt208 => ((command_Interfere.f k t195 t196 t197 t198 t199 t200 t201 t204 t207 bt208.1 bt208.2.1 bt208.2.2.1 bt208.2.2.2.1 bt208.2.2.2.2.1 bt208.2.2.2.2.2.1 bt208.2.2.2.2.2.2.1 bt208.2.2.2.2.2.2.2.1 bt208.2.2.2.2.2.2.2.2).bind fun t221 => (if t221 = true then ((althinglaw05_some.f).bind fun bt222 => ((command_Keys.f k bt222.1 bt222.2.1 bt222.2.2.1 bt222.2.2.2.1 bt222.2.2.2.2.1 bt222.2.2.2.2.2.1 bt222.2.2.2.2.2.2.1 bt222.2.2.2.2.2.2.2.1 bt222.2.2.2.2.2.2.2.2).bind fun t235 => (if (t235.length : Int) = 2 then ((althinglaw05_some.f).bind fun bt238 => ((althinglaw05_some.f).bind fun bt251 => ((command_Same.f k bt238.1 bt238.2.1 bt238.2.2.1 bt238.2.2.2.1 bt238.2.2.2.2.1 bt238.2.2.2.2.2.1 bt238.2.2.2.2.2.2.1 bt238.2.2.2.2.2.2.2.1 bt238.2.2.2.2.2.2.2.2 bt251.1 bt251.2.1 bt251.2.2.1 bt251.2.2.2.1 bt251.2.2.2.2.1 bt251.2.2.2.2.2.1 bt251.2.2.2.2.2.2.1 bt251.2.2.2.2.2.2.2.1 bt251.2.2.2.2.2.2.2.2).bind fun t264 => (some t264)))) else (some false)))) else (some false)))) = some r := H
   have A4 := Aside0.mk A40
   clear A40
   replace H := Option.bind_eq_some_iff.mp H
   obtain ⟨⟨t208, t209, t210, t211, t212, t213, t214, t217, t220⟩, A50, H⟩ := H
   replace H : ((command_Interfere.f k t195 t196 t197 t198 t199 t200 t201 t204 t207 t208 t209 t210 t211 t212 t213 t214 t217 t220).bind fun t221 => (if t221 = true then ((althinglaw05_some.f).bind fun bt222 => ((command_Keys.f k bt222.1 bt222.2.1 bt222.2.2.1 bt222.2.2.2.1 bt222.2.2.2.2.1 bt222.2.2.2.2.2.1 bt222.2.2.2.2.2.2.1 bt222.2.2.2.2.2.2.2.1 bt222.2.2.2.2.2.2.2.2).bind fun t235 => (if (t235.length : Int) = 2 then ((althinglaw05_some.f).bind fun bt238 => ((althinglaw05_some.f).bind fun bt251 => ((command_Same.f k bt238.1 bt238.2.1 bt238.2.2.1 bt238.2.2.2.1 bt238.2.2.2.2.1 bt238.2.2.2.2.2.1 bt238.2.2.2.2.2.2.1 bt238.2.2.2.2.2.2.2.1 bt238.2.2.2.2.2.2.2.2 bt251.1 bt251.2.1 bt251.2.2.1 bt251.2.2.2.1 bt251.2.2.2.2.1 bt251.2.2.2.2.2.1 bt251.2.2.2.2.2.2.1 bt251.2.2.2.2.2.2.2.1 bt251.2.2.2.2.2.2.2.2).bind fun t264 => (some t264)))) else (some false)))) else (some false))) = some r := H
   have A5 := Aside0.mk A50
   clear A50
   obtain ⟨t221, A6, H⟩ := bs_ H
   by_cases c7 : t221 = true
   · subst c7
     rw [if_pos rfl] at H
     replace H := Option.bind_eq_some_iff.mp H
     obtain ⟨⟨t222, t223, t224, t225, t226, t227, t228, t231, t234⟩, A80, H⟩ := H
     replace H : ((command_Keys.f k t222 t223 t224 t225 t226 t227 t228 t231 t234).bind fun t235 => (if (t235.length : Int) = 2 then ((althinglaw05_some.f).bind fun bt238 => ((althinglaw05_some.f).bind fun bt251 => ((command_Same.f k bt238.1 bt238.2.1 bt238.2.2.1 bt238.2.2.2.1 bt238.2.2.2.2.1 bt238.2.2.2.2.2.1 bt238.2.2.2.2.2.2.1 bt238.2.2.2.2.2.2.2.1 bt238.2.2.2.2.2.2.2.2 bt251.1 bt251.2.1 bt251.2.2.1 bt251.2.2.2.1 bt251.2.2.2.2.1 bt251.2.2.2.2.2.1 bt251.2.2.2.2.2.2.1 bt251.2.2.2.2.2.2.2.1 bt251.2.2.2.2.2.2.2.2).bind fun t264 => (some t264)))) else (some false))) = some r := H
     have A8 := Aside0.mk A80
     clear A80
     obtain ⟨t235, A9, H⟩ := bs_ H
     by_cases c10 : (t235.length : Int) = 2
     · rw [if_pos c10] at H
       have c10b0 : ((t235.length : Int) == 2) = true := beq_iff_eq.mpr c10
       have c10b1 : ((t235.length : Int) != 2) = false := bne_eq_false_iff_eq.mpr c10
       clear c10
       replace H := Option.bind_eq_some_iff.mp H
       obtain ⟨⟨t238, t239, t240, t241, t242, t243, t244, t247, t250⟩, A110, H⟩ := H
       replace H : ((althinglaw05_some.f).bind fun bt251 => ((command_Same.f k t238 t239 t240 t241 t242 t243 t244 t247 t250 bt251.1 bt251.2.1 bt251.2.2.1 bt251.2.2.2.1 bt251.2.2.2.2.1 bt251.2.2.2.2.2.1 bt251.2.2.2.2.2.2.1 bt251.2.2.2.2.2.2.2.1 bt251.2.2.2.2.2.2.2.2).bind fun t264 => (some t264))) = some r := H
       have A11 := Aside0.mk A110
       clear A110
       replace H := Option.bind_eq_some_iff.mp H
       obtain ⟨⟨t251, t252, t253, t254, t255, t256, t257, t260, t263⟩, A120, H⟩ := H
       replace H : ((command_Same.f k t238 t239 t240 t241 t242 t243 t244 t247 t250 t251 t252 t253 t254 t255 t256 t257 t260 t263).bind fun t264 => (some t264)) = some r := H
       have A12 := Aside0.mk A120
       clear A120
       obtain ⟨t264, A13, H⟩ := bs_ H
       obtain rfl := Option.some.inj H
       go_enter Try.func9, Try.ntmps9
       go_wp2_with (first | ((with_reducible refine gate_callee (f := 23) rfl ?_); refine gl_ (some 1) Try.func23 #[] ?_; (with_reducible refine (althinglaw05_some.calls  t181 t182 t183 t184 t185 t186 t187 t190 t193 _ A1.out).mono ?_); rintro e w14 ⟨v188, v191, rfl, ho0, ho1, hb⟩; refine ⟨_, rfl, ?_⟩; have HO189 := Aside0.mk (Kd.R_lower ho0 (below_size lb_)); have HO192 := Aside0.mk (Kd.R_lower ho1 (below_size lb_)); replace HB := hs_ HB hb; (try clear hb); (try clear hi); (try clear ho0); (try clear ho1); obtain ⟨Ao15, co15, eo15⟩ := Kd.R_slice HO189.out; subst eo15; obtain ⟨Ao16, co16, eo16⟩ := Kd.R_slice HO192.out; subst eo16) | ((with_reducible refine gate_callee (f := 14) rfl ?_); refine gl_ (some 2) Try.func14 #[.agg #[.int .i64 t181, .int .i64 t182, .int .i64 t183, .int .i64 t184, .int .i64 t185, .int .i64 t186, .slice Ao15 t187.length co15, .slice Ao16 t190.length co16, .bool t193]] ?_; (with_reducible refine (command_Right.calls k t181 t182 t183 t184 t185 t186 _ _ t187 _ _ t190 t193 true _ ?side1 ?side2 ?side3 ?side4 A2.out).mono ?_); (case side1 => repeat (first | exact (Kd.R_reads' HO189.out).2.2 | (with_reducible refine Kd.C_alloc ?_ _) | (with_reducible refine Kd.C_drewN ?_ _) | (with_reducible refine Kd.C_drew ?_))); (case side2 => exact (Kd.R_reads' HO189.out).2.1); (case side3 => repeat (first | exact (Kd.R_reads' HO192.out).2.2 | (with_reducible refine Kd.C_alloc ?_ _) | (with_reducible refine Kd.C_drewN ?_ _) | (with_reducible refine Kd.C_drew ?_))); (case side4 => exact (Kd.R_reads' HO192.out).2.1); rintro e w17 ⟨rfl, hb⟩; refine ⟨_, rfl, ?_⟩; replace HO189 := rb_ HO189 hb; replace HO192 := rb_ HO192 hb; replace HB := hs_ HB hb; (try clear hb); (try clear hi)) | ((with_reducible refine gate_dst (N := 4) rfl ?_); (try (refine gate_guard (by rfl) ?_; dsimp only)); (try (refine gate_guard (by rfl) ?_; dsimp only)); refine goesL_ (some 4) rfl rfl Try.func23 (by kernel_rfl) rfl #[] rfl (by (try simp only [List.map_toArray, List.map_cons, List.map_nil]); first | done | rfl) ?_; (with_reducible refine (althinglaw05_some.calls  t195 t196 t197 t198 t199 t200 t201 t204 t207 _ A4.out).mono ?_); rintro e w18 ⟨v202, v205, rfl, ho0, ho1, hb⟩; refine ⟨_, rfl, ?_⟩; have HO203 := Aside0.mk (Kd.R_lower (Kd.R_new' ho0 (Kd.R_lt (kr_ HO189.out))) (below_size lb_)); have HO206 := Aside0.mk (Kd.R_lower (Kd.R_new' ho1 (Kd.R_lt (kr_ HO192.out))) (below_size lb_)); replace HO189 := Aside0.mk (Kd.R_elder' (kr_ HO189.out) (Kd.R_base ho0) hb); replace HO192 := Aside0.mk (Kd.R_elder' (kr_ HO192.out) (Kd.R_base ho1) hb); replace HB := hs_ HB hb; (try clear hb); (try clear hi); (try clear ho0); (try clear ho1)) | ((with_reducible refine gate_dst (N := 5) rfl ?_); (try (refine gate_guard (by rfl) ?_; dsimp only)); (try (refine gate_guard (by rfl) ?_; dsimp only)); refine goesL_ (some 5) rfl rfl Try.func23 (by kernel_rfl) rfl #[] rfl (by (try simp only [List.map_toArray, List.map_cons, List.map_nil]); first | done | rfl) ?_; (with_reducible refine (althinglaw05_some.calls  t208 t209 t210 t211 t212 t213 t214 t217 t220 _ A5.out).mono ?_); rintro e w19 ⟨v215, v218, rfl, ho0, ho1, hb⟩; refine ⟨_, rfl, ?_⟩; have HO216 := Aside0.mk (Kd.R_lower (Kd.R_new' (Kd.R_new' ho0 (Kd.R_lt (kr_ HO189.out))) (Kd.R_lt (kr_ HO203.out))) (below_size lb_)); have HO219 := Aside0.mk (Kd.R_lower (Kd.R_new' (Kd.R_new' ho1 (Kd.R_lt (kr_ HO192.out))) (Kd.R_lt (kr_ HO206.out))) (below_size lb_)); replace HO189 := Aside0.mk (Kd.R_elder' (kr_ HO189.out) (Kd.R_base ho0) hb); replace HO192 := Aside0.mk (Kd.R_elder' (kr_ HO192.out) (Kd.R_base ho1) hb); replace HO203 := Aside0.mk (Kd.R_elder' (kr_ HO203.out) (Kd.R_base ho0) hb); replace HO206 := Aside0.mk (Kd.R_elder' (kr_ HO206.out) (Kd.R_base ho1) hb); replace HB := hs_ HB hb; (try clear hb); (try clear hi); (try clear ho0); (try clear ho1); obtain ⟨Ao20, co20, eo20⟩ := Kd.R_slice HO203.out; subst eo20; obtain ⟨Ao21, co21, eo21⟩ := Kd.R_slice HO206.out; subst eo21; obtain ⟨Ao22, co22, eo22⟩ := Kd.R_slice HO216.out; subst eo22; obtain ⟨Ao23, co23, eo23⟩ := Kd.R_slice HO219.out; subst eo23) | (go_at_call 13; (with_reducible refine (command_Interfere.calls k t195 t196 t197 t198 t199 t200 _ _ t201 _ _ t204 t207 t208 t209 t210 t211 t212 t213 _ _ t214 _ _ t217 t220 true _ ?side1 ?side2 ?side3 ?side4 ?side5 ?side6 ?side7 ?side8 A6.out).mono ?_); (case side1 => repeat (first | exact (Kd.R_reads' HO203.out).2.2 | (with_reducible refine Kd.C_alloc ?_ _) | (with_reducible refine Kd.C_drewN ?_ _) | (with_reducible refine Kd.C_drew ?_))); (case side2 => exact (Kd.R_reads' HO203.out).2.1); (case side3 => repeat (first | exact (Kd.R_reads' HO206.out).2.2 | (with_reducible refine Kd.C_alloc ?_ _) | (with_reducible refine Kd.C_drewN ?_ _) | (with_reducible refine Kd.C_drew ?_))); (case side4 => exact (Kd.R_reads' HO206.out).2.1); (case side5 => repeat (first | exact (Kd.R_reads' HO216.out).2.2 | (with_reducible refine Kd.C_alloc ?_ _) | (with_reducible refine Kd.C_drewN ?_ _) | (with_reducible refine Kd.C_drew ?_))); (case side6 => exact (Kd.R_reads' HO216.out).2.1); (case side7 => repeat (first | exact (Kd.R_reads' HO219.out).2.2 | (with_reducible refine Kd.C_alloc ?_ _) | (with_reducible refine Kd.C_drewN ?_ _) | (with_reducible refine Kd.C_drew ?_))); (case side8 => exact (Kd.R_reads' HO219.out).2.1); rintro e w24 ⟨rfl, hb⟩; replace HO189 := rb_ HO189 hb; replace HO192 := rb_ HO192 hb; replace HO203 := rb_ HO203 hb; replace HO206 := rb_ HO206 hb; replace HO216 := rb_ HO216 hb; replace HO219 := rb_ HO219 hb; replace HB := hs_ HB hb; (try clear hb); (try clear hi)) | ((with_reducible refine gate_dst (N := 9) rfl ?_); (try (refine gate_guard (by rfl) ?_; dsimp only)); (try (refine gate_guard (by rfl) ?_; dsimp only)); refine goesL_ (some 9) rfl rfl Try.func23 (by kernel_rfl) rfl #[] rfl (by (try simp only [List.map_toArray, List.map_cons, List.map_nil]); first | done | rfl) ?_; (with_reducible refine (althinglaw05_some.calls  t222 t223 t224 t225 t226 t227 t228 t231 t234 _ A8.out).mono ?_); rintro e w25 ⟨v229, v232, rfl, ho0, ho1, hb⟩; refine ⟨_, rfl, ?_⟩; have HO230 := Aside0.mk (Kd.R_lower (Kd.R_new' (Kd.R_new' (Kd.R_new' ho0 (Kd.R_lt (kr_ HO189.out))) (Kd.R_lt (kr_ HO203.out))) (Kd.R_lt (kr_ HO216.out))) (below_size lb_)); have HO233 := Aside0.mk (Kd.R_lower (Kd.R_new' (Kd.R_new' (Kd.R_new' ho1 (Kd.R_lt (kr_ HO192.out))) (Kd.R_lt (kr_ HO206.out))) (Kd.R_lt (kr_ HO219.out))) (below_size lb_)); replace HO189 := Aside0.mk (Kd.R_elder' (kr_ HO189.out) (Kd.R_base ho0) hb); replace HO192 := Aside0.mk (Kd.R_elder' (kr_ HO192.out) (Kd.R_base ho1) hb); replace HO203 := Aside0.mk (Kd.R_elder' (kr_ HO203.out) (Kd.R_base ho0) hb); replace HO206 := Aside0.mk (Kd.R_elder' (kr_ HO206.out) (Kd.R_base ho1) hb); replace HO216 := Aside0.mk (Kd.R_elder' (kr_ HO216.out) (Kd.R_base ho0) hb); replace HO219 := Aside0.mk (Kd.R_elder' (kr_ HO219.out) (Kd.R_base ho1) hb); replace HB := hs_ HB hb; (try clear hb); (try clear hi); (try clear ho0); (try clear ho1); obtain ⟨Ao26, co26, eo26⟩ := Kd.R_slice HO230.out; subst eo26; obtain ⟨Ao27, co27, eo27⟩ := Kd.R_slice HO233.out; subst eo27) | (go_at_call 24; (with_reducible refine (command_Keys.calls k t222 t223 t224 t225 t226 t227 _ _ t228 _ _ t231 t234 t235 _ ?side1 ?side2 ?side3 ?side4 A9.out).mono ?_); (case side1 => repeat (first | exact (Kd.R_reads' HO230.out).2.2 | (with_reducible refine Kd.C_alloc ?_ _) | (with_reducible refine Kd.C_drewN ?_ _) | (with_reducible refine Kd.C_drew ?_))); (case side2 => exact (Kd.R_reads' HO230.out).2.1); (case side3 => repeat (first | exact (Kd.R_reads' HO233.out).2.2 | (with_reducible refine Kd.C_alloc ?_ _) | (with_reducible refine Kd.C_drewN ?_ _) | (with_reducible refine Kd.C_drew ?_))); (case side4 => exact (Kd.R_reads' HO233.out).2.1); rintro e w28 ⟨v236, rfl, ho0, hb⟩; have HO237 := Aside0.mk (Kd.R_lower ho0 (below_size lb_)); replace HO189 := rb_ HO189 hb; replace HO192 := rb_ HO192 hb; replace HO203 := rb_ HO203 hb; replace HO206 := rb_ HO206 hb; replace HO216 := rb_ HO216 hb; replace HO219 := rb_ HO219 hb; replace HO230 := rb_ HO230 hb; replace HO233 := rb_ HO233 hb; replace HB := hs_ HB hb; (try clear hb); (try clear hi); (try clear ho0); obtain ⟨Ao29, co29, eo29⟩ := Kd.R_slice HO237.out; subst eo29) | ((with_reducible refine gate_dst (N := 15) rfl ?_); (try (refine gate_guard (by rfl) ?_; dsimp only)); (try (refine gate_guard (by rfl) ?_; dsimp only)); refine goesL_ (some 15) rfl rfl Try.func23 (by kernel_rfl) rfl #[] rfl (by (try simp only [List.map_toArray, List.map_cons, List.map_nil]); first | done | rfl) ?_; (with_reducible refine (althinglaw05_some.calls  t238 t239 t240 t241 t242 t243 t244 t247 t250 _ A11.out).mono ?_); rintro e w30 ⟨v245, v248, rfl, ho0, ho1, hb⟩; refine ⟨_, rfl, ?_⟩; have HO246 := Aside0.mk (Kd.R_lower (Kd.R_new' (Kd.R_new' (Kd.R_new' (Kd.R_new' ho0 (Kd.R_lt (kr_ HO189.out))) (Kd.R_lt (kr_ HO203.out))) (Kd.R_lt (kr_ HO216.out))) (Kd.R_lt (kr_ HO230.out))) (below_size lb_)); have HO249 := Aside0.mk (Kd.R_lower (Kd.R_new' (Kd.R_new' (Kd.R_new' (Kd.R_new' ho1 (Kd.R_lt (kr_ HO192.out))) (Kd.R_lt (kr_ HO206.out))) (Kd.R_lt (kr_ HO219.out))) (Kd.R_lt (kr_ HO233.out))) (below_size lb_)); replace HO189 := Aside0.mk (Kd.R_elder' (kr_ HO189.out) (Kd.R_base ho0) hb); replace HO192 := Aside0.mk (Kd.R_elder' (kr_ HO192.out) (Kd.R_base ho1) hb); replace HO203 := Aside0.mk (Kd.R_elder' (kr_ HO203.out) (Kd.R_base ho0) hb); replace HO206 := Aside0.mk (Kd.R_elder' (kr_ HO206.out) (Kd.R_base ho1) hb); replace HO216 := Aside0.mk (Kd.R_elder' (kr_ HO216.out) (Kd.R_base ho0) hb); replace HO219 := Aside0.mk (Kd.R_elder' (kr_ HO219.out) (Kd.R_base ho1) hb); replace HO230 := Aside0.mk (Kd.R_elder' (kr_ HO230.out) (Kd.R_base ho0) hb); replace HO233 := Aside0.mk (Kd.R_elder' (kr_ HO233.out) (Kd.R_base ho1) hb); replace HO237 := rb_ HO237 hb; replace HB := hs_ HB hb; (try clear hb); (try clear hi); (try clear ho0); (try clear ho1)) | ((with_reducible refine gate_dst (N := 16) rfl ?_); (try (refine gate_guard (by rfl) ?_; dsimp only)); (try (refine gate_guard (by rfl) ?_; dsimp only)); refine goesL_ (some 16) rfl rfl Try.func23 (by kernel_rfl) rfl #[] rfl (by (try simp only [List.map_toArray, List.map_cons, List.map_nil]); first | done | rfl) ?_; (with_reducible refine (althinglaw05_some.calls  t251 t252 t253 t254 t255 t256 t257 t260 t263 _ A12.out).mono ?_); rintro e w31 ⟨v258, v261, rfl, ho0, ho1, hb⟩; refine ⟨_, rfl, ?_⟩; have HO259 := Aside0.mk (Kd.R_lower (Kd.R_new' (Kd.R_new' (Kd.R_new' (Kd.R_new' (Kd.R_new' ho0 (Kd.R_lt (kr_ HO189.out))) (Kd.R_lt (kr_ HO203.out))) (Kd.R_lt (kr_ HO216.out))) (Kd.R_lt (kr_ HO230.out))) (Kd.R_lt (kr_ HO246.out))) (below_size lb_)); have HO262 := Aside0.mk (Kd.R_lower (Kd.R_new' (Kd.R_new' (Kd.R_new' (Kd.R_new' (Kd.R_new' ho1 (Kd.R_lt (kr_ HO192.out))) (Kd.R_lt (kr_ HO206.out))) (Kd.R_lt (kr_ HO219.out))) (Kd.R_lt (kr_ HO233.out))) (Kd.R_lt (kr_ HO249.out))) (below_size lb_)); replace HO189 := Aside0.mk (Kd.R_elder' (kr_ HO189.out) (Kd.R_base ho0) hb); replace HO192 := Aside0.mk (Kd.R_elder' (kr_ HO192.out) (Kd.R_base ho1) hb); replace HO203 := Aside0.mk (Kd.R_elder' (kr_ HO203.out) (Kd.R_base ho0) hb); replace HO206 := Aside0.mk (Kd.R_elder' (kr_ HO206.out) (Kd.R_base ho1) hb); replace HO216 := Aside0.mk (Kd.R_elder' (kr_ HO216.out) (Kd.R_base ho0) hb); replace HO219 := Aside0.mk (Kd.R_elder' (kr_ HO219.out) (Kd.R_base ho1) hb); replace HO230 := Aside0.mk (Kd.R_elder' (kr_ HO230.out) (Kd.R_base ho0) hb); replace HO233 := Aside0.mk (Kd.R_elder' (kr_ HO233.out) (Kd.R_base ho1) hb); replace HO237 := rb_ HO237 hb; replace HO246 := Aside0.mk (Kd.R_elder' (kr_ HO246.out) (Kd.R_base ho0) hb); replace HO249 := Aside0.mk (Kd.R_elder' (kr_ HO249.out) (Kd.R_base ho1) hb); replace HB := hs_ HB hb; (try clear hb); (try clear hi); (try clear ho0); (try clear ho1); obtain ⟨Ao32, co32, eo32⟩ := Kd.R_slice HO246.out; subst eo32; obtain ⟨Ao33, co33, eo33⟩ := Kd.R_slice HO249.out; subst eo33; obtain ⟨Ao34, co34, eo34⟩ := Kd.R_slice HO259.out; subst eo34; obtain ⟨Ao35, co35, eo35⟩ := Kd.R_slice HO262.out; subst eo35) | (go_at_call 25; (with_reducible refine (command_Same.calls k t238 t239 t240 t241 t242 t243 _ _ t244 _ _ t247 t250 t251 t252 t253 t254 t255 t256 _ _ t257 _ _ t260 t263 t264 _ ?side1 ?side2 ?side3 ?side4 ?side5 ?side6 ?side7 ?side8 A13.out).mono ?_); (case side1 => repeat (first | exact (Kd.R_reads' HO246.out).2.2 | (with_reducible refine Kd.C_alloc ?_ _) | (with_reducible refine Kd.C_drewN ?_ _) | (with_reducible refine Kd.C_drew ?_))); (case side2 => exact (Kd.R_reads' HO246.out).2.1); (case side3 => repeat (first | exact (Kd.R_reads' HO249.out).2.2 | (with_reducible refine Kd.C_alloc ?_ _) | (with_reducible refine Kd.C_drewN ?_ _) | (with_reducible refine Kd.C_drew ?_))); (case side4 => exact (Kd.R_reads' HO249.out).2.1); (case side5 => repeat (first | exact (Kd.R_reads' HO259.out).2.2 | (with_reducible refine Kd.C_alloc ?_ _) | (with_reducible refine Kd.C_drewN ?_ _) | (with_reducible refine Kd.C_drew ?_))); (case side6 => exact (Kd.R_reads' HO259.out).2.1); (case side7 => repeat (first | exact (Kd.R_reads' HO262.out).2.2 | (with_reducible refine Kd.C_alloc ?_ _) | (with_reducible refine Kd.C_drewN ?_ _) | (with_reducible refine Kd.C_drew ?_))); (case side8 => exact (Kd.R_reads' HO262.out).2.1); rintro e w36 ⟨rfl, hb⟩; replace HO189 := rb_ HO189 hb; replace HO192 := rb_ HO192 hb; replace HO203 := rb_ HO203 hb; replace HO206 := rb_ HO206 hb; replace HO216 := rb_ HO216 hb; replace HO219 := rb_ HO219 hb; replace HO230 := rb_ HO230 hb; replace HO233 := rb_ HO233 hb; replace HO237 := rb_ HO237 hb; replace HO246 := rb_ HO246 hb; replace HO249 := rb_ HO249 hb; replace HO259 := rb_ HO259 hb; replace HO262 := rb_ HO262 hb; replace HB := hs_ HB hb; (try clear hb); (try clear hi)))
       go_ret
       exact ⟨by first | rfl | (simp [errW_none, errW_some] <;> rfl) | (simp [*, errW_none, errW_some] <;> rfl), by repeat (first | (with_reducible first | exact HB.out | apply below_alloc | apply pw_below_drewN | apply below_drew1) | exact HB.out)⟩
     · rw [if_neg c10] at H
       have c10b0 : ((t235.length : Int) == 2) = false := beq_eq_false_iff_ne.mpr c10
       have c10b1 : ((t235.length : Int) != 2) = true := bne_iff_ne.mpr c10
       obtain rfl := Option.some.inj H
       go_enter Try.func9, Try.ntmps9
       go_wp2_with (first | ((with_reducible refine gate_callee (f := 23) rfl ?_); refine gl_ (some 1) Try.func23 #[] ?_; (with_reducible refine (althinglaw05_some.calls  t181 t182 t183 t184 t185 t186 t187 t190 t193 _ A1.out).mono ?_); rintro e w37 ⟨v188, v191, rfl, ho0, ho1, hb⟩; refine ⟨_, rfl, ?_⟩; have HO189 := Aside0.mk (Kd.R_lower ho0 (below_size lb_)); have HO192 := Aside0.mk (Kd.R_lower ho1 (below_size lb_)); replace HB := hs_ HB hb; (try clear hb); (try clear hi); (try clear ho0); (try clear ho1); obtain ⟨Ao38, co38, eo38⟩ := Kd.R_slice HO189.out; subst eo38; obtain ⟨Ao39, co39, eo39⟩ := Kd.R_slice HO192.out; subst eo39) | ((with_reducible refine gate_callee (f := 14) rfl ?_); refine gl_ (some 2) Try.func14 #[.agg #[.int .i64 t181, .int .i64 t182, .int .i64 t183, .int .i64 t184, .int .i64 t185, .int .i64 t186, .slice Ao38 t187.length co38, .slice Ao39 t190.length co39, .bool t193]] ?_; (with_reducible refine (command_Right.calls k t181 t182 t183 t184 t185 t186 _ _ t187 _ _ t190 t193 true _ ?side1 ?side2 ?side3 ?side4 A2.out).mono ?_); (case side1 => repeat (first | exact (Kd.R_reads' HO189.out).2.2 | (with_reducible refine Kd.C_alloc ?_ _) | (with_reducible refine Kd.C_drewN ?_ _) | (with_reducible refine Kd.C_drew ?_))); (case side2 => exact (Kd.R_reads' HO189.out).2.1); (case side3 => repeat (first | exact (Kd.R_reads' HO192.out).2.2 | (with_reducible refine Kd.C_alloc ?_ _) | (with_reducible refine Kd.C_drewN ?_ _) | (with_reducible refine Kd.C_drew ?_))); (case side4 => exact (Kd.R_reads' HO192.out).2.1); rintro e w40 ⟨rfl, hb⟩; refine ⟨_, rfl, ?_⟩; replace HO189 := rb_ HO189 hb; replace HO192 := rb_ HO192 hb; replace HB := hs_ HB hb; (try clear hb); (try clear hi)) | ((with_reducible refine gate_dst (N := 4) rfl ?_); (try (refine gate_guard (by rfl) ?_; dsimp only)); (try (refine gate_guard (by rfl) ?_; dsimp only)); refine goesL_ (some 4) rfl rfl Try.func23 (by kernel_rfl) rfl #[] rfl (by (try simp only [List.map_toArray, List.map_cons, List.map_nil]); first | done | rfl) ?_; (with_reducible refine (althinglaw05_some.calls  t195 t196 t197 t198 t199 t200 t201 t204 t207 _ A4.out).mono ?_); rintro e w41 ⟨v202, v205, rfl, ho0, ho1, hb⟩; refine ⟨_, rfl, ?_⟩; have HO203 := Aside0.mk (Kd.R_lower (Kd.R_new' ho0 (Kd.R_lt (kr_ HO189.out))) (below_size lb_)); have HO206 := Aside0.mk (Kd.R_lower (Kd.R_new' ho1 (Kd.R_lt (kr_ HO192.out))) (below_size lb_)); replace HO189 := Aside0.mk (Kd.R_elder' (kr_ HO189.out) (Kd.R_base ho0) hb); replace HO192 := Aside0.mk (Kd.R_elder' (kr_ HO192.out) (Kd.R_base ho1) hb); replace HB := hs_ HB hb; (try clear hb); (try clear hi); (try clear ho0); (try clear ho1)) | ((with_reducible refine gate_dst (N := 5) rfl ?_); (try (refine gate_guard (by rfl) ?_; dsimp only)); (try (refine gate_guard (by rfl) ?_; dsimp only)); refine goesL_ (some 5) rfl rfl Try.func23 (by kernel_rfl) rfl #[] rfl (by (try simp only [List.map_toArray, List.map_cons, List.map_nil]); first | done | rfl) ?_; (with_reducible refine (althinglaw05_some.calls  t208 t209 t210 t211 t212 t213 t214 t217 t220 _ A5.out).mono ?_); rintro e w42 ⟨v215, v218, rfl, ho0, ho1, hb⟩; refine ⟨_, rfl, ?_⟩; have HO216 := Aside0.mk (Kd.R_lower (Kd.R_new' (Kd.R_new' ho0 (Kd.R_lt (kr_ HO189.out))) (Kd.R_lt (kr_ HO203.out))) (below_size lb_)); have HO219 := Aside0.mk (Kd.R_lower (Kd.R_new' (Kd.R_new' ho1 (Kd.R_lt (kr_ HO192.out))) (Kd.R_lt (kr_ HO206.out))) (below_size lb_)); replace HO189 := Aside0.mk (Kd.R_elder' (kr_ HO189.out) (Kd.R_base ho0) hb); replace HO192 := Aside0.mk (Kd.R_elder' (kr_ HO192.out) (Kd.R_base ho1) hb); replace HO203 := Aside0.mk (Kd.R_elder' (kr_ HO203.out) (Kd.R_base ho0) hb); replace HO206 := Aside0.mk (Kd.R_elder' (kr_ HO206.out) (Kd.R_base ho1) hb); replace HB := hs_ HB hb; (try clear hb); (try clear hi); (try clear ho0); (try clear ho1); obtain ⟨Ao43, co43, eo43⟩ := Kd.R_slice HO203.out; subst eo43; obtain ⟨Ao44, co44, eo44⟩ := Kd.R_slice HO206.out; subst eo44; obtain ⟨Ao45, co45, eo45⟩ := Kd.R_slice HO216.out; subst eo45; obtain ⟨Ao46, co46, eo46⟩ := Kd.R_slice HO219.out; subst eo46) | (go_at_call 13; (with_reducible refine (command_Interfere.calls k t195 t196 t197 t198 t199 t200 _ _ t201 _ _ t204 t207 t208 t209 t210 t211 t212 t213 _ _ t214 _ _ t217 t220 true _ ?side1 ?side2 ?side3 ?side4 ?side5 ?side6 ?side7 ?side8 A6.out).mono ?_); (case side1 => repeat (first | exact (Kd.R_reads' HO203.out).2.2 | (with_reducible refine Kd.C_alloc ?_ _) | (with_reducible refine Kd.C_drewN ?_ _) | (with_reducible refine Kd.C_drew ?_))); (case side2 => exact (Kd.R_reads' HO203.out).2.1); (case side3 => repeat (first | exact (Kd.R_reads' HO206.out).2.2 | (with_reducible refine Kd.C_alloc ?_ _) | (with_reducible refine Kd.C_drewN ?_ _) | (with_reducible refine Kd.C_drew ?_))); (case side4 => exact (Kd.R_reads' HO206.out).2.1); (case side5 => repeat (first | exact (Kd.R_reads' HO216.out).2.2 | (with_reducible refine Kd.C_alloc ?_ _) | (with_reducible refine Kd.C_drewN ?_ _) | (with_reducible refine Kd.C_drew ?_))); (case side6 => exact (Kd.R_reads' HO216.out).2.1); (case side7 => repeat (first | exact (Kd.R_reads' HO219.out).2.2 | (with_reducible refine Kd.C_alloc ?_ _) | (with_reducible refine Kd.C_drewN ?_ _) | (with_reducible refine Kd.C_drew ?_))); (case side8 => exact (Kd.R_reads' HO219.out).2.1); rintro e w47 ⟨rfl, hb⟩; replace HO189 := rb_ HO189 hb; replace HO192 := rb_ HO192 hb; replace HO203 := rb_ HO203 hb; replace HO206 := rb_ HO206 hb; replace HO216 := rb_ HO216 hb; replace HO219 := rb_ HO219 hb; replace HB := hs_ HB hb; (try clear hb); (try clear hi)) | ((with_reducible refine gate_dst (N := 9) rfl ?_); (try (refine gate_guard (by rfl) ?_; dsimp only)); (try (refine gate_guard (by rfl) ?_; dsimp only)); refine goesL_ (some 9) rfl rfl Try.func23 (by kernel_rfl) rfl #[] rfl (by (try simp only [List.map_toArray, List.map_cons, List.map_nil]); first | done | rfl) ?_; (with_reducible refine (althinglaw05_some.calls  t222 t223 t224 t225 t226 t227 t228 t231 t234 _ A8.out).mono ?_); rintro e w48 ⟨v229, v232, rfl, ho0, ho1, hb⟩; refine ⟨_, rfl, ?_⟩; have HO230 := Aside0.mk (Kd.R_lower (Kd.R_new' (Kd.R_new' (Kd.R_new' ho0 (Kd.R_lt (kr_ HO189.out))) (Kd.R_lt (kr_ HO203.out))) (Kd.R_lt (kr_ HO216.out))) (below_size lb_)); have HO233 := Aside0.mk (Kd.R_lower (Kd.R_new' (Kd.R_new' (Kd.R_new' ho1 (Kd.R_lt (kr_ HO192.out))) (Kd.R_lt (kr_ HO206.out))) (Kd.R_lt (kr_ HO219.out))) (below_size lb_)); replace HO189 := Aside0.mk (Kd.R_elder' (kr_ HO189.out) (Kd.R_base ho0) hb); replace HO192 := Aside0.mk (Kd.R_elder' (kr_ HO192.out) (Kd.R_base ho1) hb); replace HO203 := Aside0.mk (Kd.R_elder' (kr_ HO203.out) (Kd.R_base ho0) hb); replace HO206 := Aside0.mk (Kd.R_elder' (kr_ HO206.out) (Kd.R_base ho1) hb); replace HO216 := Aside0.mk (Kd.R_elder' (kr_ HO216.out) (Kd.R_base ho0) hb); replace HO219 := Aside0.mk (Kd.R_elder' (kr_ HO219.out) (Kd.R_base ho1) hb); replace HB := hs_ HB hb; (try clear hb); (try clear hi); (try clear ho0); (try clear ho1); obtain ⟨Ao49, co49, eo49⟩ := Kd.R_slice HO230.out; subst eo49; obtain ⟨Ao50, co50, eo50⟩ := Kd.R_slice HO233.out; subst eo50) | (go_at_call 24; (with_reducible refine (command_Keys.calls k t222 t223 t224 t225 t226 t227 _ _ t228 _ _ t231 t234 t235 _ ?side1 ?side2 ?side3 ?side4 A9.out).mono ?_); (case side1 => repeat (first | exact (Kd.R_reads' HO230.out).2.2 | (with_reducible refine Kd.C_alloc ?_ _) | (with_reducible refine Kd.C_drewN ?_ _) | (with_reducible refine Kd.C_drew ?_))); (case side2 => exact (Kd.R_reads' HO230.out).2.1); (case side3 => repeat (first | exact (Kd.R_reads' HO233.out).2.2 | (with_reducible refine Kd.C_alloc ?_ _) | (with_reducible refine Kd.C_drewN ?_ _) | (with_reducible refine Kd.C_drew ?_))); (case side4 => exact (Kd.R_reads' HO233.out).2.1); rintro e w51 ⟨v236, rfl, ho0, hb⟩; have HO237 := Aside0.mk (Kd.R_lower ho0 (below_size lb_)); replace HO189 := rb_ HO189 hb; replace HO192 := rb_ HO192 hb; replace HO203 := rb_ HO203 hb; replace HO206 := rb_ HO206 hb; replace HO216 := rb_ HO216 hb; replace HO219 := rb_ HO219 hb; replace HO230 := rb_ HO230 hb; replace HO233 := rb_ HO233 hb; replace HB := hs_ HB hb; (try clear hb); (try clear hi); (try clear ho0); obtain ⟨Ao52, co52, eo52⟩ := Kd.R_slice HO237.out; subst eo52))
       go_ret
       exact ⟨by first | rfl | (simp [errW_none, errW_some] <;> rfl) | (simp [*, errW_none, errW_some] <;> rfl), by repeat (first | (with_reducible first | exact HB.out | apply below_alloc | apply pw_below_drewN | apply below_drew1) | exact HB.out)⟩
   · replace c7 := Bool.eq_false_iff.mpr c7
     subst c7
     rw [if_neg (show ¬ (false = true) by decide)] at H
     obtain rfl := Option.some.inj H
     go_enter Try.func9, Try.ntmps9
     go_wp2_with (first | ((with_reducible refine gate_callee (f := 23) rfl ?_); refine gl_ (some 1) Try.func23 #[] ?_; (with_reducible refine (althinglaw05_some.calls  t181 t182 t183 t184 t185 t186 t187 t190 t193 _ A1.out).mono ?_); rintro e w53 ⟨v188, v191, rfl, ho0, ho1, hb⟩; refine ⟨_, rfl, ?_⟩; have HO189 := Aside0.mk (Kd.R_lower ho0 (below_size lb_)); have HO192 := Aside0.mk (Kd.R_lower ho1 (below_size lb_)); replace HB := hs_ HB hb; (try clear hb); (try clear hi); (try clear ho0); (try clear ho1); obtain ⟨Ao54, co54, eo54⟩ := Kd.R_slice HO189.out; subst eo54; obtain ⟨Ao55, co55, eo55⟩ := Kd.R_slice HO192.out; subst eo55) | ((with_reducible refine gate_callee (f := 14) rfl ?_); refine gl_ (some 2) Try.func14 #[.agg #[.int .i64 t181, .int .i64 t182, .int .i64 t183, .int .i64 t184, .int .i64 t185, .int .i64 t186, .slice Ao54 t187.length co54, .slice Ao55 t190.length co55, .bool t193]] ?_; (with_reducible refine (command_Right.calls k t181 t182 t183 t184 t185 t186 _ _ t187 _ _ t190 t193 true _ ?side1 ?side2 ?side3 ?side4 A2.out).mono ?_); (case side1 => repeat (first | exact (Kd.R_reads' HO189.out).2.2 | (with_reducible refine Kd.C_alloc ?_ _) | (with_reducible refine Kd.C_drewN ?_ _) | (with_reducible refine Kd.C_drew ?_))); (case side2 => exact (Kd.R_reads' HO189.out).2.1); (case side3 => repeat (first | exact (Kd.R_reads' HO192.out).2.2 | (with_reducible refine Kd.C_alloc ?_ _) | (with_reducible refine Kd.C_drewN ?_ _) | (with_reducible refine Kd.C_drew ?_))); (case side4 => exact (Kd.R_reads' HO192.out).2.1); rintro e w56 ⟨rfl, hb⟩; refine ⟨_, rfl, ?_⟩; replace HO189 := rb_ HO189 hb; replace HO192 := rb_ HO192 hb; replace HB := hs_ HB hb; (try clear hb); (try clear hi)) | ((with_reducible refine gate_dst (N := 4) rfl ?_); (try (refine gate_guard (by rfl) ?_; dsimp only)); (try (refine gate_guard (by rfl) ?_; dsimp only)); refine goesL_ (some 4) rfl rfl Try.func23 (by kernel_rfl) rfl #[] rfl (by (try simp only [List.map_toArray, List.map_cons, List.map_nil]); first | done | rfl) ?_; (with_reducible refine (althinglaw05_some.calls  t195 t196 t197 t198 t199 t200 t201 t204 t207 _ A4.out).mono ?_); rintro e w57 ⟨v202, v205, rfl, ho0, ho1, hb⟩; refine ⟨_, rfl, ?_⟩; have HO203 := Aside0.mk (Kd.R_lower (Kd.R_new' ho0 (Kd.R_lt (kr_ HO189.out))) (below_size lb_)); have HO206 := Aside0.mk (Kd.R_lower (Kd.R_new' ho1 (Kd.R_lt (kr_ HO192.out))) (below_size lb_)); replace HO189 := Aside0.mk (Kd.R_elder' (kr_ HO189.out) (Kd.R_base ho0) hb); replace HO192 := Aside0.mk (Kd.R_elder' (kr_ HO192.out) (Kd.R_base ho1) hb); replace HB := hs_ HB hb; (try clear hb); (try clear hi); (try clear ho0); (try clear ho1)) | ((with_reducible refine gate_dst (N := 5) rfl ?_); (try (refine gate_guard (by rfl) ?_; dsimp only)); (try (refine gate_guard (by rfl) ?_; dsimp only)); refine goesL_ (some 5) rfl rfl Try.func23 (by kernel_rfl) rfl #[] rfl (by (try simp only [List.map_toArray, List.map_cons, List.map_nil]); first | done | rfl) ?_; (with_reducible refine (althinglaw05_some.calls  t208 t209 t210 t211 t212 t213 t214 t217 t220 _ A5.out).mono ?_); rintro e w58 ⟨v215, v218, rfl, ho0, ho1, hb⟩; refine ⟨_, rfl, ?_⟩; have HO216 := Aside0.mk (Kd.R_lower (Kd.R_new' (Kd.R_new' ho0 (Kd.R_lt (kr_ HO189.out))) (Kd.R_lt (kr_ HO203.out))) (below_size lb_)); have HO219 := Aside0.mk (Kd.R_lower (Kd.R_new' (Kd.R_new' ho1 (Kd.R_lt (kr_ HO192.out))) (Kd.R_lt (kr_ HO206.out))) (below_size lb_)); replace HO189 := Aside0.mk (Kd.R_elder' (kr_ HO189.out) (Kd.R_base ho0) hb); replace HO192 := Aside0.mk (Kd.R_elder' (kr_ HO192.out) (Kd.R_base ho1) hb); replace HO203 := Aside0.mk (Kd.R_elder' (kr_ HO203.out) (Kd.R_base ho0) hb); replace HO206 := Aside0.mk (Kd.R_elder' (kr_ HO206.out) (Kd.R_base ho1) hb); replace HB := hs_ HB hb; (try clear hb); (try clear hi); (try clear ho0); (try clear ho1); obtain ⟨Ao59, co59, eo59⟩ := Kd.R_slice HO203.out; subst eo59; obtain ⟨Ao60, co60, eo60⟩ := Kd.R_slice HO206.out; subst eo60; obtain ⟨Ao61, co61, eo61⟩ := Kd.R_slice HO216.out; subst eo61; obtain ⟨Ao62, co62, eo62⟩ := Kd.R_slice HO219.out; subst eo62) | (go_at_call 13; (with_reducible refine (command_Interfere.calls k t195 t196 t197 t198 t199 t200 _ _ t201 _ _ t204 t207 t208 t209 t210 t211 t212 t213 _ _ t214 _ _ t217 t220 false _ ?side1 ?side2 ?side3 ?side4 ?side5 ?side6 ?side7 ?side8 A6.out).mono ?_); (case side1 => repeat (first | exact (Kd.R_reads' HO203.out).2.2 | (with_reducible refine Kd.C_alloc ?_ _) | (with_reducible refine Kd.C_drewN ?_ _) | (with_reducible refine Kd.C_drew ?_))); (case side2 => exact (Kd.R_reads' HO203.out).2.1); (case side3 => repeat (first | exact (Kd.R_reads' HO206.out).2.2 | (with_reducible refine Kd.C_alloc ?_ _) | (with_reducible refine Kd.C_drewN ?_ _) | (with_reducible refine Kd.C_drew ?_))); (case side4 => exact (Kd.R_reads' HO206.out).2.1); (case side5 => repeat (first | exact (Kd.R_reads' HO216.out).2.2 | (with_reducible refine Kd.C_alloc ?_ _) | (with_reducible refine Kd.C_drewN ?_ _) | (with_reducible refine Kd.C_drew ?_))); (case side6 => exact (Kd.R_reads' HO216.out).2.1); (case side7 => repeat (first | exact (Kd.R_reads' HO219.out).2.2 | (with_reducible refine Kd.C_alloc ?_ _) | (with_reducible refine Kd.C_drewN ?_ _) | (with_reducible refine Kd.C_drew ?_))); (case side8 => exact (Kd.R_reads' HO219.out).2.1); rintro e w63 ⟨rfl, hb⟩; replace HO189 := rb_ HO189 hb; replace HO192 := rb_ HO192 hb; replace HO203 := rb_ HO203 hb; replace HO206 := rb_ HO206 hb; replace HO216 := rb_ HO216 hb; replace HO219 := rb_ HO219 hb; replace HB := hs_ HB hb; (try clear hb); (try clear hi)))
     go_ret
     exact ⟨by first | rfl | (simp [errW_none, errW_some] <;> rfl) | (simp [*, errW_none, errW_some] <;> rfl), by repeat (first | (with_reducible first | exact HB.out | apply below_alloc | apply pw_below_drewN | apply below_drew1) | exact HB.out)⟩
 · replace c3 := Bool.eq_false_iff.mpr c3
   subst c3
   rw [if_neg (show ¬ (false = true) by decide)] at H
   obtain rfl := Option.some.inj H
   go_enter Try.func9, Try.ntmps9
   go_wp2_with (first | ((with_reducible refine gate_callee (f := 23) rfl ?_); refine gl_ (some 1) Try.func23 #[] ?_; (with_reducible refine (althinglaw05_some.calls  t181 t182 t183 t184 t185 t186 t187 t190 t193 _ A1.out).mono ?_); rintro e w64 ⟨v188, v191, rfl, ho0, ho1, hb⟩; refine ⟨_, rfl, ?_⟩; have HO189 := Aside0.mk (Kd.R_lower ho0 (below_size lb_)); have HO192 := Aside0.mk (Kd.R_lower ho1 (below_size lb_)); replace HB := hs_ HB hb; (try clear hb); (try clear hi); (try clear ho0); (try clear ho1); obtain ⟨Ao65, co65, eo65⟩ := Kd.R_slice HO189.out; subst eo65; obtain ⟨Ao66, co66, eo66⟩ := Kd.R_slice HO192.out; subst eo66) | ((with_reducible refine gate_callee (f := 14) rfl ?_); refine gl_ (some 2) Try.func14 #[.agg #[.int .i64 t181, .int .i64 t182, .int .i64 t183, .int .i64 t184, .int .i64 t185, .int .i64 t186, .slice Ao65 t187.length co65, .slice Ao66 t190.length co66, .bool t193]] ?_; (with_reducible refine (command_Right.calls k t181 t182 t183 t184 t185 t186 _ _ t187 _ _ t190 t193 false _ ?side1 ?side2 ?side3 ?side4 A2.out).mono ?_); (case side1 => repeat (first | exact (Kd.R_reads' HO189.out).2.2 | (with_reducible refine Kd.C_alloc ?_ _) | (with_reducible refine Kd.C_drewN ?_ _) | (with_reducible refine Kd.C_drew ?_))); (case side2 => exact (Kd.R_reads' HO189.out).2.1); (case side3 => repeat (first | exact (Kd.R_reads' HO192.out).2.2 | (with_reducible refine Kd.C_alloc ?_ _) | (with_reducible refine Kd.C_drewN ?_ _) | (with_reducible refine Kd.C_drew ?_))); (case side4 => exact (Kd.R_reads' HO192.out).2.1); rintro e w67 ⟨rfl, hb⟩; refine ⟨_, rfl, ?_⟩; replace HO189 := rb_ HO189 hb; replace HO192 := rb_ HO192 hb; replace HB := hs_ HB hb; (try clear hb); (try clear hi)))
   go_ret
   exact ⟨by first | rfl | (simp [errW_none, errW_some] <;> rfl) | (simp [*, errW_none, errW_some] <;> rfl), by repeat (first | (with_reducible first | exact HB.out | apply below_alloc | apply pw_below_drewN | apply below_drew1) | exact HB.out)⟩
end Go.Proofs.Ytnjeeedndnfglaa.X
end
