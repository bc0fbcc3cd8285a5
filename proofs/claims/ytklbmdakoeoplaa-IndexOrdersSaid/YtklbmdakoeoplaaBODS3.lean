/- What the claim ODS leans on: texts joined by bundle.py, a program of ours; the words cut down to what is used. -/
import Derived.Test.YtklbmdakoeoplaaBODS2
import Derived.Test.YtklbmdakoeoplaaProg
import Derived.Shelf.Small.Bits
import Derived.Shelf.Strconv.Itoa0
import Derived.Shelf.Sort.Plain
import Derived.Shelf.Slices.Turned
import Derived.Shelf.Slices.In.SortNone
import Derived.Sort.Walk0
import Derived.Sort.OwnSorted
import Derived.Maps.Own
import Derived.Maps.OwnOps
import Derived.Maps.Views
import Derived.StringKeys
section
namespace Go.Proofs
open Go.Shelf
def Try.lays190_ren : Go.Shelf.Ren := ⟨fun | 190 => 58 | 125 => 60 | 258 => 59 | 128 => 70 | 129 => 71 | 302 => 61 | 303 => 62 | 304 => 63 | 305 => 64 | 306 => 65 | 307 => 66 | 308 => 67 | 309 => 68 | 310 => 69 | 333 => 72 | 329 => 73 | 330 => 74 | 334 => 75 | 335 => 76 | 336 => 77 | 344 => 78 | n => n, fun | 31 => 68 | 9 => 9 | 3 => 3 | 46 => 85 | 0 => 0 | 51 => 95 | 53 => 97 | 4 => 4 | 183 => 88 | 182 => 87 | 131 => 92 | 5 => 5 | 218 => 98 | 222 => 102 | 228 => 104 | 229 => 105 | n => n, fun | n => n⟩
theorem Try.lays190 : Go.Proofs.Lays.n190 Try.prog Try.lays190_ren := {
  mixed := by kernel_rfl
  f125 := Try.func60.trans (congrArg some (by kernel_rfl))
  f128 := Try.func70.trans (congrArg some (by kernel_rfl))
  f129 := Try.func71.trans (congrArg some (by kernel_rfl))
  f190 := Try.func58.trans (congrArg some (by kernel_rfl))
  f258 := Try.func59.trans (congrArg some (by kernel_rfl))
  f302 := Try.func61.trans (congrArg some (by kernel_rfl))
  f303 := Try.func62.trans (congrArg some (by kernel_rfl))
  f304 := Try.func63.trans (congrArg some (by kernel_rfl))
  f305 := Try.func64.trans (congrArg some (by kernel_rfl))
  f306 := Try.func65.trans (congrArg some (by kernel_rfl))
  f307 := Try.func66.trans (congrArg some (by kernel_rfl))
  f308 := Try.func67.trans (congrArg some (by kernel_rfl))
  f309 := Try.func68.trans (congrArg some (by kernel_rfl))
  f310 := Try.func69.trans (congrArg some (by kernel_rfl))
  f329 := Try.func73.trans (congrArg some (by kernel_rfl))
  f330 := Try.func74.trans (congrArg some (by kernel_rfl))
  f333 := Try.func72.trans (congrArg some (by kernel_rfl))
  f334 := Try.func75.trans (congrArg some (by kernel_rfl))
  f335 := Try.func76.trans (congrArg some (by kernel_rfl))
  f336 := Try.func77.trans (congrArg some (by kernel_rfl))
  f344 := Try.func78.trans (congrArg some (by kernel_rfl))
  t0 := Try.underlying0
  a0 := Try.isAgg0
  z0 := Try.sizeOf0
  v0 := Try.zeroValue0
  t3 := Try.underlying3
  a3 := Try.isAgg3
  z3 := Try.sizeOf3
  v3 := Try.zeroValue3
  t4 := Try.underlying4
  a4 := Try.isAgg4
  z4 := Try.sizeOf4
  v4 := Try.zeroValue4
  t5 := Try.underlying5
  a5 := Try.isAgg5
  z5 := Try.sizeOf5
  v5 := Try.zeroValue5
  t9 := Try.underlying9
  a9 := Try.isAgg9
  z9 := Try.sizeOf9
  v9 := Try.zeroValue9
  t31 := Try.underlying68
  a31 := Try.isAgg68
  z31 := Try.sizeOf68
  v31 := Try.zeroValue68
  t46 := Try.underlying85
  a46 := Try.isAgg85
  z46 := Try.sizeOf85
  v46 := Try.zeroValue85
  t51 := Try.underlying95
  a51 := Try.isAgg95
  z51 := Try.sizeOf95
  v51 := Try.zeroValue95
  t53 := Try.underlying97
  a53 := Try.isAgg97
  z53 := Try.sizeOf97
  v53 := Try.zeroValue97
  t131 := Try.underlying92
  a131 := Try.isAgg92
  z131 := Try.sizeOf92
  v131 := Try.zeroValue92
  t182 := Try.underlying87
  a182 := Try.isAgg87
  z182 := Try.sizeOf87
  v182 := Try.zeroValue87
  t183 := Try.underlying88
  a183 := Try.isAgg88
  z183 := Try.sizeOf88
  v183 := Try.zeroValue88
  t218 := Try.underlying98
  a218 := Try.isAgg98
  z218 := Try.sizeOf98
  v218 := Try.zeroValue98
  t222 := Try.underlying102
  a222 := Try.isAgg102
  z222 := Try.sizeOf102
  v222 := Try.zeroValue102
  t228 := Try.underlying104
  a228 := Try.isAgg104
  z228 := Try.sizeOf104
  v228 := Try.zeroValue104
  t229 := Try.underlying105
  a229 := Try.isAgg105
  z229 := Try.sizeOf105
  v229 := Try.zeroValue105 }
open Go.Sort Go.RowKit in
theorem Try.slices_Sort_string (blk off cap : Nat) (ss : List (List UInt8)) (w : World) (hH : Holds encStr w blk off ss.toArray) (hblk : blk < w.heap.size) (hsz : ss.length < 4611686018427387904) :
    Calls Try.prog 58 #[.slice (some ⟨blk, off, none⟩) ss.length cap] w fun e w' =>
      e = .returned (.tuple #[]) ∧ ∃ n os, w' = grow (putRow encStr (Sort.ahead w n) blk off (ss.mergeSort fun x y => decide (x ≤ y)).toArray) os := Any.slices_Sort_string Try.lays190 blk off cap ss w hH hblk hsz
open Go.Lib in
open Go.Lib in
def Try.lays110_ren : Go.Shelf.Ren := ⟨fun | 110 => 51 | 109 => 57 | n => n, fun | 31 => 68 | 9 => 9 | 4 => 4 | 3 => 3 | 0 => 0 | n => n, fun | n => n⟩
theorem Try.lays110 : Go.Proofs.Lays.n110 Try.prog Try.lays110_ren := {
  mixed := by kernel_rfl
  f109 := Try.func57.trans (congrArg some (by kernel_rfl))
  f110 := Try.func51.trans (congrArg some (by kernel_rfl))
  t0 := Try.underlying0
  a0 := Try.isAgg0
  z0 := Try.sizeOf0
  v0 := Try.zeroValue0
  t3 := Try.underlying3
  a3 := Try.isAgg3
  z3 := Try.sizeOf3
  v3 := Try.zeroValue3
  t4 := Try.underlying4
  a4 := Try.isAgg4
  z4 := Try.sizeOf4
  v4 := Try.zeroValue4
  t9 := Try.underlying9
  a9 := Try.isAgg9
  z9 := Try.sizeOf9
  v9 := Try.zeroValue9
  t31 := Try.underlying68
  a31 := Try.isAgg68
  z31 := Try.sizeOf68
  v31 := Try.zeroValue68 }
open Go.Lib in
/-- slices.Contains at []string: "Contains reports whether v is present in s.": IT RETURNS 'Lib.containsS (the elements) v', which is true just where v is among them ('Lib.containsS_iff'); the world is as it was. ITS CALLEE slices.Index IS MET BY ITS OWN CONTRACT OFF THE SHELF (lay that first): no loop is walked here. (LAID: no walk: one application.) -/
theorem Try.slices_Contains_string (b off n c : Nat) (zs : List ByteArray) (x : ByteArray) (w : World) (hz : n ≤ zs.length) (hbig : n ≤ 9223372036854775807) (hc : ∀ j, j < zs.length → w.cell? ⟨b, off + j, none⟩ = some (.string (zs.getD j ByteArray.empty))) :
    Calls Try.prog 51 #[.slice (some ⟨b, off, none⟩) n c, .string x] w fun e w' => e = .returned (.bool (Lib.containsS (zs.take n) x)) ∧ w' = w := Any.slices_Contains_string Try.lays110 b off n c zs x w hz hbig hc
open Go.Lib in
/-- The same at a slice of length 0, a nil one too. (LAID: no walk: one application.) -/
theorem Try.slices_Contains_string_empty (a : Option Addr) (c : Nat) (x : ByteArray) (w : World) :
    Calls Try.prog 51 #[.slice a 0 c, .string x] w fun e w' => e = .returned (.bool false) ∧ w' = w := Any.slices_Contains_string_empty Try.lays110 a c x w
open Go.RowKit Go.Sort in
/-- .. and plain. (LAID: no walk: one application.) -/
theorem Try.slices_Sort_string_none (p : Option Addr) (cap : Nat) (w : World) :
    Calls Try.prog 58 #[.slice p 0 cap] w fun e w' => e = .returned (.tuple #[]) ∧ w' = w := Any.slices_Sort_string_none Try.lays190 p cap w
end Go.Proofs
end
section
namespace Go.Proofs.Ytklbmdakoeoplaa.X
open Go.RowKit Go.Proofs.YtklbmdakoeoplaaW.PrintWords Go.Proofs.YtklbmdakoeoplaaW.PrintLast Go.Proofs.YtklbmdakoeoplaaW.PrintMore
set_option linter.unusedVariables false
set_option linter.unusedSimpArgs false
attribute [local go_sem high] eqA24
/-- Known's closure: is a record one of the instance? -/
theorem known1_any (x0 : Int) (x1 : Int) (x2 : Int) (x3 : Int) (x4 : Int) (x5 : Int) (x6 : Int) (x7 : Int) (x8 : Int) (x9 : Int) (x10 : Int) (x11 : Int) (x12 : Int) (A13 : Option Addr) (n13 c13 : Nat) (A14 : Option Addr) (n14 c14 : Nat) (x15 : Bool) (x16 : Int) (x17 : Int) (x18 : Int) (x19 : Int) (x20 : Int) (x21 : Int) (x22 : Int) (x23 : Int) (x24 : Bool) (g : Nat) (y0 y1 : Int) (w : World) (h0 : CapC w g 0 (.int .i64 y0)) (h1 : CapC w g 1 (.int .i64 y1)) :
    Calls Try.prog 31 #[.agg #[.int .i64 x0, .int .i64 x1, .int .i64 x2, .int .i64 x3, .int .i64 x4, .int .i64 x5, .int .i64 x6, .int .i64 x7, .int .i64 x8, .int .i64 x9, .int .i64 x10, .int .i64 x11, .int .i64 x12, .slice A13 n13 c13, .slice A14 n14 c14, .bool x15, .int .i64 x16, .int .i64 x17, .int .i64 x18, .int .i64 x19, .int .i64 x20, .int .i64 x21, .int .i64 x22, .int .i64 x23, .bool x24], .pointer (some ⟨g, 0, none⟩)] w fun e w' => e = .returned (.bool (x0 == y0 && (x1 == y1))) ∧ Below w.heap.size w w' := by
  have H0 := Aside0.mk h0
  have H1 := Aside0.mk h1
  clear h0 h1
  go_enter Try.func31, Try.ntmps31
  go_wp2_with ((with_reducible refine gate_dst (N := 2) rfl ?_); refine box_event ?hg (N := 2) ?hd (cs := #[.int .i64 x0, .int .i64 x1, .int .i64 x2, .int .i64 x3, .int .i64 x4, .int .i64 x5, .int .i64 x6, .int .i64 x7, .int .i64 x8, .int .i64 x9, .int .i64 x10, .int .i64 x11, .int .i64 x12, .slice A13 n13 c13, .slice A14 n14 c14, .bool x15, .int .i64 x16, .int .i64 x17, .int .i64 x18, .int .i64 x19, .int .i64 x20, .int .i64 x21, .int .i64 x22, .int .i64 x23, .bool x24]) (t := 44) ?hr ?_; (case hd => rfl); (case hg => rfl); (case hr => first | (go_simp; done) | (go_simp; rfl)); intro gb hg w8 hbox hb; have HB := Aside0.mk hb; have hz0 : w8.cell? ⟨gb, 0, none⟩ = some (.int .i64 x0) := (blk_cell hbox 0).trans rfl; have hz1 : w8.cell? ⟨gb, 1, none⟩ = some (.int .i64 x1) := (blk_cell hbox 1).trans rfl; have k0 := (H0.out.below hb).cell; have k1 := (H1.out.below hb).cell; clear hbox hb hg)
  go_ret
  exact ⟨by first | rfl | (simp; done), HB.out⟩
theorem CellsAt.below {w w1 : World} {p : Addr} : ∀ (cs : List Value) (k : Nat), CellsAt w p k cs → Below w.heap.size w w1 → CellsAt w1 p k cs
  | [], _, _, _ => trivial
  | c :: cs, k, h, hb => ⟨(hb.cell (World.block_lt_of_cell? w _ h.1)).trans h.1, CellsAt.below cs (k + 1) h.2 hb⟩
/-- What IndexFunc tells. -/
def FirstAt (n : Nat) (p : Nat → Bool) (m : Int) : Prop := (m = -1 ∧ ∀ j, j < n → p j = false) ∨ ∃ i : Nat, m = i ∧ i < n ∧ p i = true ∧ ∀ j, j < i → p j = false
set_option maxRecDepth 100000 in
set_option maxHeartbeats 4000000 in
theorem indexFunc_known (A0 : Option Addr) (n c0 : Nat) (p : Nat → Bool) (g : Nat) (w : World) (hn : n ≤ 1000000)
    (hel : ∀ j, j < n → ∃ ad v vs, A0 = some ad ∧ vs.length = 24 ∧ w.cell? (ad.add (j * 25)) = some v ∧ CellsAt w (ad.add (j * 25)) 1 vs ∧ ∀ w1, Below w.heap.size w w1 → Calls Try.prog 31 #[.agg (v :: vs).toArray, .pointer (some ⟨g, 0, none⟩)] w1 fun e w' => e = .returned (.bool (p j)) ∧ Below w1.heap.size w1 w') :
    Calls Try.prog 43 #[.slice A0 n c0, .func (.func 31) #[] #[.pointer (some ⟨g, 0, none⟩)]] w fun e w' => ∃ m : Int, e = .returned (.int .i64 m) ∧ FirstAt n p m ∧ Below w.heap.size w w' := by
  have HN := Lib.hid hn
  have HEL := Lib.hid hel
  clear hel hn
  go_enter Try.func43, Try.ntmps43
  go_wp2
  go_loopw [8] (fun i wr => ∃ j : Nat, j ≤ n ∧ i = .int .i64 j ∧ Hid (∀ t, t < j → p t = false) ∧ Hid (Below w.heap.size w wr)) (fun i _ => n - (intOf i).toNat)
  case atStart => exact ⟨0, by omega, rfl, Lib.hid (fun t ht => by omega), Lib.hid (Below.refl _ _)⟩
  case round =>
    obtain ⟨j, hj, rfl, hS, hw⟩ := hrel
    by_cases hlt : j < n
    · obtain ⟨ad, v, vs, hA, hl, hv, hvs, hcall⟩ := HEL.out j hlt
      subst hA
      have HV := Lib.hid ((hw.out.cell (World.block_lt_of_cell? w _ hv)).trans hv)
      have HVS := Lib.hid (CellsAt.below vs 1 hvs hw.out)
      have HC := Lib.hid (hcall wr hw.out)
      have HL := Lib.hid hl
      have hjn := HN.out
      clear hv hvs hcall hl
      go_wp2_with (first
        | ((with_reducible refine gate_dst (N := 15) rfl ?_); refine cells_load_event ?lg (N := 15) ?ld (t := 44) (x := ?lxx) ?lo (p := ?lpp) ?lx (v := v) (cs := vs) ?lD ?lt ?l0 ?lc ?_; (case lg => rfl); (case ld => rfl); (case lo => rfl); (case lx => first | rfl | (go_simp; done) | (go_simp; rfl)); (case lD => exact ⟨_, Try.underlying44, rfl⟩); (case lt => rw [HL.out]; kernel_rfl); (case l0 => exact HV.out); (case lc => exact HVS.out))
        | (go_at_call 31; refine HC.out.mono ?_; rintro e w' ⟨rfl, hb⟩; have HB := Lib.hid (below_step hw.out hb); clear hb; have HP := Lib.hid (rfl : p j = p j); generalize hpj : p j = b at HP ⊢; have HPJ := Lib.hid hpj; clear hpj; cases b))
      all_goals first
        | (go_ret; exact ⟨j, rfl, .inr ⟨j, rfl, hlt, HPJ.out, hS.out⟩, HB.out⟩)
        | exact ⟨⟨j + 1, by omega, by simp, Lib.hid (fun t ht => by
            rcases Nat.lt_succ_iff_lt_or_eq.1 ht with h | h
            · exact hS.out t h
            · rw [h]; exact HPJ.out), HB⟩, by simp [intOf]; omega⟩
    · go_wp2
      go_ret
      obtain rfl : j = n := by omega
      exact ⟨-1, rfl, .inl ⟨rfl, hS.out⟩, hw.out⟩
theorem any_rd (l : List S44) (q : S44 → Bool) (m : Int) (h : FirstAt l.length (fun j => q (rd_T44 l (j : Int))) m) : decide (0 ≤ m) = l.any q := by
  have hr : ∀ j (hj : j < l.length), rd_T44 l (j : Int) = l[j] := fun j hj => by unfold rd_T44; rw [Int.toNat_natCast]; simp [List.getD_eq_getElem?_getD, hj]
  rcases h with ⟨rfl, h⟩ | ⟨i, rfl, hi, hp, _⟩
  · symm
    rw [decide_eq_false (by omega), List.any_eq_false]
    intro x hx
    obtain ⟨j, hj, rfl⟩ := List.getElem_of_mem hx
    have := h j hj
    simp only [hr j hj] at this
    simp [this]
  · symm
    rw [decide_eq_true (by omega), List.any_eq_true]
    exact ⟨l[i], List.getElem_mem hi, by rw [← hr i hi]; exact hp⟩
def sameI (a b : Int) (x : S44) : Bool := x.f0.f0 == a && (x.f0.f1 == b)
def api_Record.f (l0 : List S44) (a1 : Int) (a2 : Int) : Option Bool := if l0.length ≤ 1000000 then some (l0.any (sameI a1 a2)) else none
set_option maxRecDepth 100000 in
set_option maxHeartbeats 4000000 in
theorem api_Record.calls {g : Nat} (A0 : Option Addr) (c0 : Nat) (l0 : List S44) (a1 : Int) (a2 : Int) (r : Bool) (w : World) (hr0 : Kd.C k44 w A0 l0.length l0) (hc0 : l0.length ≤ c0) (h0 : CapC w g 0 (.int .i64 a1)) (h1 : CapC w g 1 (.int .i64 a2)) (h : api_Record.f l0 a1 a2 = some r) :
    Calls Try.prog 32 #[.slice A0 l0.length c0, .func (.func 31) #[] #[.pointer (some ⟨g, 0, none⟩)]] w fun e w' => e = .returned (.bool r) ∧ Below w.heap.size w w' := by
  unfold api_Record.f at h
  by_cases hl : l0.length ≤ 1000000
  · rw [if_pos hl] at h
    have HX := Lib.hid (Option.some.inj h)
    have HI := Lib.hid (indexFunc_known A0 l0.length c0 (fun j => sameI a1 a2 (rd_T44 l0 (j : Int))) g w hl (fun j hj => by
      obtain ⟨ad, A13, c13, A14, c14, e, hx0, hx1, hx2, hx3, hx4, hx5, hx6, hx7, hx8, hx9, hx10, hx11, hx12, hx13, hx14, hx15, hx16, hx17, hx18, hx19, hx20, hx21, hx22, hx23, hx24, _, _, _, _⟩ := at_T44 hr0 (j : Int) (by omega) (by omega)
      exact ⟨ad, _, [.int .i64 (rd_T44 l0 (j : Int)).f0.f1, .int .i64 (rd_T44 l0 (j : Int)).f1, .int .i64 (rd_T44 l0 (j : Int)).f2.f0, .int .i64 (rd_T44 l0 (j : Int)).f2.f1, .int .i64 (rd_T44 l0 (j : Int)).f3.f0, .int .i64 (rd_T44 l0 (j : Int)).f3.f1, .int .i64 (rd_T44 l0 (j : Int)).f4.f0, .int .i64 (rd_T44 l0 (j : Int)).f4.f1.f0, .int .i64 (rd_T44 l0 (j : Int)).f4.f1.f1, .int .i64 (rd_T44 l0 (j : Int)).f4.f2.f0, .int .i64 (rd_T44 l0 (j : Int)).f4.f2.f1, .int .i64 (rd_T44 l0 (j : Int)).f4.f3, .slice A13 (rd_T44 l0 (j : Int)).f4.f4.length c13, .slice A14 (rd_T44 l0 (j : Int)).f4.f5.length c14, .bool (rd_T44 l0 (j : Int)).f4.f6, .int .i64 (rd_T44 l0 (j : Int)).f5, .int .i64 (rd_T44 l0 (j : Int)).f6.f0, .int .i64 (rd_T44 l0 (j : Int)).f6.f1, .int .i64 (rd_T44 l0 (j : Int)).f6.f2, .int .i64 (rd_T44 l0 (j : Int)).f6.f3, .int .i64 (rd_T44 l0 (j : Int)).f6.f4, .int .i64 (rd_T44 l0 (j : Int)).f6.f5, .int .i64 (rd_T44 l0 (j : Int)).f6.f6, .bool (rd_T44 l0 (j : Int)).f7], e, rfl, hx0, ⟨hx1, hx2, hx3, hx4, hx5, hx6, hx7, hx8, hx9, hx10, hx11, hx12, hx13, hx14, hx15, hx16, hx17, hx18, hx19, hx20, hx21, hx22, hx23, hx24, trivial⟩, fun w1 hb => known1_any _ _ _ _ _ _ _ _ _ _ _ _ _ _ _ _ _ _ _ _ _ _ _ _ _ _ _ _ _ g a1 a2 w1 (h0.below hb) (h1.below hb)⟩))
    clear h hr0 h0 h1 hc0 hl
    go_enter Try.func32, Try.ntmps32
    go_wp2_with (go_at_call 43; refine HI.out.mono ?_; rintro e w' ⟨m, rfl, hm, hb⟩; have HM := Lib.hid hm; have HB := Lib.hid hb; clear hm hb)
    go_ret
    exact ⟨by rw [← HX.out, ← any_rd l0 _ m HM.out]; rfl, HB.out⟩
  · rw [if_neg hl] at h; cases h
end Go.Proofs.Ytklbmdakoeoplaa.X
end
section
namespace Go.Proofs.Ytklbmdakoeoplaa.X
open Go.RowKit Go.Proofs.YtklbmdakoeoplaaW.PrintWords Go.Proofs.YtklbmdakoeoplaaW.PrintLast Go.Proofs.YtklbmdakoeoplaaW.PrintMore
attribute [local go_sem] max2_int min2_int max_two min_two max_three min_three max_four min_four   -- for this text's walks alone
set_option linter.unusedVariables false
set_option linter.unusedSimpArgs false

theorem eqA26 (d : Nat) (w : World) (x0 y0 : Int) (x1 y1 : Int) :
    (Op.equalIn (d + 2) 26 (.agg #[.int .i64 x0, .int .i64 x1]) (.agg #[.int .i64 y0, .int .i64 y1])).run Try.prog w = .ok (x0 == y0 && (x1 == y1)) w := by
  refine eqA_of Try.underlying26 (by kernel_rfl) ?_
  refine eqf_cons (by rfl) (by go_simp; rfl) (by go_simp; rfl) (by go_simp) ?_
  exact eqf_last (by rfl) (by go_simp; rfl) (by go_simp; rfl) (by go_simp)
end Go.Proofs.Ytklbmdakoeoplaa.X
end
section
namespace Go.Proofs.Ytklbmdakoeoplaa.X
open Go.RowKit Go.Proofs.YtklbmdakoeoplaaW.PrintWords Go.Proofs.YtklbmdakoeoplaaW.PrintLast Go.Proofs.YtklbmdakoeoplaaW.PrintMore
attribute [local go_sem] max2_int min2_int max_two min_two max_three min_three max_four min_four   -- for this text's walks alone
set_option linter.unusedVariables false
set_option linter.unusedSimpArgs false
/-! ### command_read: function 53 -/
def command_read.l0 : Nat → List ByteArray → List (S61) → Int → Int → Option (List ByteArray)
 | 0, _, _, _, _ => none
 | k + 1, x3, x7, x8, x9 => if x9 < x8 then (if 0 ≤ x9 then (if x9 < (x7.length : Int) then (if x3.length < 8796093022208 then (command_read.l0 k (x3 ++ [(rd_T61 x7 x9).f0]) x7 x8 (wrap64 (x9 + 1))) else (none)) else (none)) else (none)) else (some x3)
def command_read.f (k : Nat) (a0_0 : Int) (a0_1 : Int) (a0_2 : Int) (a0_3 : Int) (a0_4 : Int) (a0_5 : Int) (l0_6 : List (S61)) (l0_7 : List (S46)) (a0_8 : Bool) : Option (List ByteArray) := command_read.l0 k ([] : List ByteArray) l0_6 (l0_6.length : Int) 0
set_option maxHeartbeats 8000000 in
set_option maxRecDepth 100000 in
theorem command_read.calls (k : Nat) (a0_0 : Int) (a0_1 : Int) (a0_2 : Int) (a0_3 : Int) (a0_4 : Int) (a0_5 : Int) (A0_6 : Option Addr) (c0_6 : Nat) (l0_6 : List (S61)) (A0_7 : Option Addr) (c0_7 : Nat) (l0_7 : List (S46)) (a0_8 : Bool) (r : List ByteArray) (w : World) (hr0_6 : Kd.C k61 w A0_6 l0_6.length l0_6) (hc0_6 : l0_6.length ≤ c0_6) (hr0_7 : Kd.C k46 w A0_7 l0_7.length l0_7) (hc0_7 : l0_7.length ≤ c0_7) (h : command_read.f k a0_0 a0_1 a0_2 a0_3 a0_4 a0_5 l0_6 l0_7 a0_8 = some r) :
 Calls Try.prog 53 #[.agg #[.int .i64 a0_0, .int .i64 a0_1, .int .i64 a0_2, .int .i64 a0_3, .int .i64 a0_4, .int .i64 a0_5, .slice A0_6 l0_6.length c0_6, .slice A0_7 l0_7.length c0_7, .bool a0_8]] w fun e w' => ∃ v0_ : Value, e = .returned (v0_) ∧ Kd.R Kd.string 9 w' w.heap.size (fun _ => True) v0_ r ∧ Below w.heap.size w w' := by
 have hu32 := Try.underlying32
 have hu61 := Try.underlying61
 have HR0_6 := Aside0.mk hr0_6
 have HC0_6 := Aside0.mk hc0_6
 clear hr0_6 hc0_6
 have HR0_7 := Aside0.mk hr0_7
 have HC0_7 := Aside0.mk hc0_7
 clear hr0_7 hc0_7
 have HB := Aside0.mk (Below.refl w.heap.size w)
 have H : (command_read.l0 k ([] : List ByteArray) l0_6 (l0_6.length : Int) 0) = some r := h
 clear h
 have H' := Aside0.mk H
 clear H
 go_enter Try.func53, Try.ntmps53
 go_wp2_with (first | ((with_reducible refine gate_dst (N := 1) rfl ?_); refine box_event ?hg (N := 1) ?hd (cs := #[.int .i64 a0_0, .int .i64 a0_1, .int .i64 a0_2, .int .i64 a0_3, .int .i64 a0_4, .int .i64 a0_5, .slice A0_6 l0_6.length c0_6, .slice A0_7 l0_7.length c0_7, .bool a0_8]) (t := 32) ?hr ?_; (case hd => rfl); (case hg => rfl); (case hr => first | (go_simp; done) | (go_simp; rfl)); intro gb587 hg w2 hbox hb; have n0_ := Aside0.mk (below_step lb_ hb); have n1_ := Aside0.mk (hbox); have n2_ := Aside0.mk ((by rw [hg]; exact (below_size lb_) : w.heap.size ≤ gb587)); have n3_ := Aside0.mk ((by rw [hg]; exact (below_size lb_) : w.heap.size ≤ gb587)); clear HB; have HB := n0_; have BK587 := n1_; have GW587 := n2_; have GE587 := n3_; clear n0_ n1_ n2_ n3_; clear hb hbox hg; refine blk9_ BK587.out fun hcz3_0 hcz3_1 hcz3_2 hcz3_3 hcz3_4 hcz3_5 hcz3_6 hcz3_7 hcz3_8 hfz3_0 hfz3_1 hfz3_2 hfz3_3 hfz3_4 hfz3_5 hfz3_6 hfz3_7 hfz3_8 => ?_))
 go_loopg [3, 9] k (fun kq v3 v9 w' => ∃ (x3_1 : List ByteArray) (x9_1 : Int), v9 = .int .i64 x9_1 ∧ Aside0 (command_read.l0 kq x3_1 l0_6 (l0_6.length : Int) x9_1 = some r) ∧ Aside0 (kq ≤ k) ∧ Aside0 (Kd.R Kd.string 9 w' w.heap.size (fun _ => True) v3 x3_1) ∧ Aside0 (w'.heap[gb587]? = some (.cells #[.int .i64 a0_0, .int .i64 a0_1, .int .i64 a0_2, .int .i64 a0_3, .int .i64 a0_4, .int .i64 a0_5, (.slice A0_6 l0_6.length c0_6), (.slice A0_7 l0_7.length c0_7), .bool a0_8] 32 (0, 0))) ∧ Aside0 (Below w.heap.size w w'))
 case atStart => exact ⟨(([] : List ByteArray)), (0), (by first | rfl | (simp; done) | (simp [*]; done)), H', ⟨Nat.le_refl _⟩, ⟨by first | exact Kd.R_nil _ _ _ _ _ | exact Kd.N_nil _ _ _ _ _ | exact Kd.V_nil _ _ _ _ _ | exact Kd.Q_nil _ _ _ _ _ | exact Kd.S_nil _ _ _ _ _⟩, ⟨by (with_reducible repeat (first | refine blk_drewN ?_ _ | refine blk_drew ?_ | refine blk_alloc ?_ _)); exact BK587.out⟩, ⟨by repeat (first | (with_reducible first | exact HB.out | apply below_alloc | apply pw_below_drewN | apply below_drew1 | refine below_set ?_ GE587.out) | exact HB.out)⟩⟩
 case round =>
  clear H'
  try clear p2
  try clear hcz3_0 hcz3_1 hcz3_2 hcz3_3 hcz3_4 hcz3_5 hcz3_6 hcz3_7 hcz3_8
  try clear hfz3_0 hfz3_1 hfz3_2 hfz3_3 hfz3_4 hfz3_5 hfz3_6 hfz3_7 hfz3_8
  (try clear BK587)
  obtain ⟨x3_1, x9_1, rfl, HA, HK1, HO_3, BK587, HB⟩ := hrel
  cases gk with
  | zero => exact absurd HA.out (by simp [command_read.l0])
  | succ k1 =>
   have H := HA.out
   clear HA
   simp only [command_read.l0] at H
   by_cases c4 : x9_1 < (l0_6.length : Int)
   · rw [if_pos c4] at H
     have c4b0 : decide (x9_1 < (l0_6.length : Int)) = true := decide_eq_true c4
     clear c4
     by_cases c5 : 0 ≤ x9_1
     · rw [if_pos c5] at H
       have c5b0 : decide (0 ≤ x9_1) = true := decide_eq_true c5
       clear c5
       by_cases c6 : x9_1 < (l0_6.length : Int)
       · rw [if_pos c6] at H
         have c6b0 : decide (x9_1 < (l0_6.length : Int)) = true := decide_eq_true c6
         clear c6
         by_cases c7 : x3_1.length < 8796093022208
         · rw [if_pos c7] at H
           have LMc7 := Aside0.mk c7
           clear c7
           obtain ⟨y590, hy590⟩ : ∃ y_ : List ByteArray, y_ = (x3_1 ++ [(rd_T61 l0_6 x9_1).f0]) := ⟨_, rfl⟩
           replace H : (command_read.l0 k1 y590 l0_6 (l0_6.length : Int) (wrap64 (x9_1 + 1))) = some r := by first | (rw [hy590]; with_reducible exact H) | (have H2_ := (Option.bind_some _ _).symm.trans H; rw [hy590]; with_reducible exact H2_) | (have H2_ := (Option.bind_some _ _).symm.trans H; with_reducible exact H2_) | with_reducible exact H | (rw [hy590]; exact H) | exact H
           have Ny590 := Aside0.mk hy590
           clear hy590
           have H' := Aside0.mk H
           clear H
           have p588 : 0 ≤ (x9_1 : Int) := of_decide_eq_true (by first | (with_reducible assumption) | assumption)
           have q588 : x9_1 < (l0_6.length : Int) := of_decide_eq_true (by first | (with_reducible assumption) | assumption)
           obtain ⟨ad588, e588, hx588_0, hx588_1, hx588_2⟩ := at_T61 HR0_6.out x9_1 p588 q588
           cases e588
           replace hx588_0 := (HB.out.cell (World.block_lt_of_cell? w _ hx588_0)).trans hx588_0
           replace hx588_1 := (HB.out.cell (World.block_lt_of_cell? w _ hx588_1)).trans hx588_1
           replace hx588_2 := (HB.out.cell (World.block_lt_of_cell? w _ hx588_2)).trans hx588_2
           replace p588 := eq_true p588
           replace q588 := eq_true q588
           go_wp2_with (first | ((with_reducible refine gate_dst (N := 5) rfl ?_); refine box_event ?hg (N := 5) ?hd (cs := #[.string (⟨#[]⟩ : ByteArray), .int .i64 0, .int .i64 0]) (t := 61) ?hr ?_; (case hd => rfl); (case hg => rfl); (case hr => first | (go_simp; done) | (go_simp; rfl)); intro gb589 hg w8 hbox hb; have n0_ := Aside0.mk (Kd.R_below (kr_ HO_3.out) hb); have n1_ := Aside0.mk (blk_below (kb_ BK587.out) hb); have n2_ := Aside0.mk (below_step (by repeat (first | (with_reducible first | exact HB.out | apply below_alloc | apply pw_below_drewN | apply below_drew1 | refine below_set ?_ GE587.out) | exact HB.out)) hb); have n3_ := Aside0.mk (hbox); have n4_ := Aside0.mk ((by rw [hg]; exact (below_size (by repeat (first | (with_reducible first | exact HB.out | apply below_alloc | apply pw_below_drewN | apply below_drew1 | refine below_set ?_ GE587.out) | exact HB.out))) : w.heap.size ≤ gb589)); have n5_ := Aside0.mk ((by rw [hg]; exact (below_size (by repeat (first | (with_reducible first | exact HB.out | apply below_alloc | apply pw_below_drewN | apply below_drew1 | refine below_set ?_ GE587.out) | exact HB.out))) : w.heap.size ≤ gb589)); have n6_ := Aside0.mk ((by rw [hg]; exact Nat.ne_of_lt (blk_lt (kb_ BK587.out)) : gb587 ≠ gb589)); have n7_ := Aside0.mk ((by rw [hg]; exact Nat.ne_of_gt (blk_lt (kb_ BK587.out)) : gb589 ≠ gb587)); clear HO_3; clear BK587; clear HB; have HO_3 := n0_; have BK587 := n1_; have HB := n2_; have BK589 := n3_; have GW589 := n4_; have GE589 := n5_; have NB587_589 := n6_; have NB589_587 := n7_; clear n0_ n1_ n2_ n3_ n4_ n5_ n6_ n7_; clear hb hbox hg; have hnb9 := NB589_587.out; have hnc9 := NB587_589.out; refine blk3_ BK589.out fun hcz10_0 hcz10_1 hcz10_2 hfz10_0 hfz10_1 hfz10_2 => ?_) | ((with_reducible refine gate_builtin (b := .append) (xs := #[.tmp 13, .tmp 16]) rfl ?_); at_builtin; refine Kd.R_append Kd.string (w0 := w) w.heap.size rfl (.tmp 13) (.tmp 16) 68 9 (.string ⟨#[]⟩) 16 rfl Try.underlying68 info9 rfl (by decide) (by omega) u3 x3_1 ((rd_T61 l0_6 x9_1).f0) [.string ((rd_T61 l0_6 x9_1).f0)] (fun _ => True) (fun _ => False) rfl (by first | (go_simp; done) | (go_simp; rfl)) ?aP (fun _ hk => hk.elim) ?aF ?aO ?aB ?aS ?aL ?_; (case aP => exact rfl); (case aB => exact (by repeat (first | (with_reducible first | exact HB.out | apply below_alloc | apply pw_below_drewN | apply below_drew1 | refine below_set ?_ GE587.out | refine below_set ?_ GE589.out) | exact HB.out))); (case aF => exact (fun _ _ => trivial)); (case aO => exact (by (with_reducible repeat (first | apply Kd.R_alloc | apply Kd.R_drewN | apply Kd.R_drew)); exact Kd.R_mono (Kd.R_far (p := ⟨gb589, 2, none⟩) (Kd.R_far (p := ⟨gb589, 1, none⟩) (Kd.R_far (p := ⟨gb589, 0, none⟩) (Kd.R_types HO_3.out BK589.out (by decide)) (fun _ hk => hk.2) (.string ((rd_T61 l0_6 x9_1).f0))) (fun _ hk => hk.2) (.int .i64 ((rd_T61 l0_6 x9_1).f1.f0))) (fun _ hk => hk.2) (.int .i64 ((rd_T61 l0_6 x9_1).f1.f1))) (fun _ hk => trivial))); (case aS => exact (below_size (by repeat (first | (with_reducible first | exact HB.out | apply below_alloc | apply pw_below_drewN | apply below_drew1 | refine below_set ?_ GE587.out | refine below_set ?_ GE589.out) | exact HB.out)))); (case aL => have := LMc7.out; omega); intro v591 w11 ho hb hg hat; rw [← Ny590.out] at ho; have n0_ := Aside0.mk (blk_grown (g := gb587) (o := .cells #[.int .i64 a0_0, .int .i64 a0_1, .int .i64 a0_2, .int .i64 a0_3, .int .i64 a0_4, .int .i64 a0_5, .slice (some ad588) l0_6.length c0_6, .slice A0_7 l0_7.length c0_7, .bool a0_8] 32 (0, 0)) (by (with_reducible repeat (first | refine blk_drewN ?_ _ | refine blk_drew ?_ | refine blk_alloc ?_ _)); refine blk_far ?_ NB587_589.out _; (with_reducible repeat (first | refine blk_drewN ?_ _ | refine blk_drew ?_ | refine blk_alloc ?_ _)); refine blk_far ?_ NB587_589.out _; (with_reducible repeat (first | refine blk_drewN ?_ _ | refine blk_drew ?_ | refine blk_alloc ?_ _)); refine blk_far ?_ NB587_589.out _; (with_reducible repeat (first | refine blk_drewN ?_ _ | refine blk_drew ?_ | refine blk_alloc ?_ _)); exact BK587.out) hg (Kd.R_ne HO_3.out BK587.out (by decide))); have n1_ := Aside0.mk (blk_grown (g := gb589) (o := .cells #[.string ((rd_T61 l0_6 x9_1).f0), .int .i64 ((rd_T61 l0_6 x9_1).f1.f0), .int .i64 ((rd_T61 l0_6 x9_1).f1.f1)] 61 (0, 0)) (by (with_reducible repeat (first | refine blk_drewN ?_ _ | refine blk_drew ?_ | refine blk_alloc ?_ _)); refine blk_put (cs := #[.string ((rd_T61 l0_6 x9_1).f0), .int .i64 ((rd_T61 l0_6 x9_1).f1.f0), .int .i64 0]) ?_ 2 _ rfl; (with_reducible repeat (first | refine blk_drewN ?_ _ | refine blk_drew ?_ | refine blk_alloc ?_ _)); refine blk_put (cs := #[.string ((rd_T61 l0_6 x9_1).f0), .int .i64 0, .int .i64 0]) ?_ 1 _ rfl; (with_reducible repeat (first | refine blk_drewN ?_ _ | refine blk_drew ?_ | refine blk_alloc ?_ _)); refine blk_put (cs := #[.string (⟨#[]⟩ : ByteArray), .int .i64 0, .int .i64 0]) ?_ 0 _ rfl; (with_reducible repeat (first | refine blk_drewN ?_ _ | refine blk_drew ?_ | refine blk_alloc ?_ _)); exact BK589.out) hg (Kd.R_ne HO_3.out BK589.out (by decide))); have n2_ := Aside0.mk (hb); have n3_ := Aside0.mk (ho); clear BK587; clear BK589; clear HB; clear HO_3; have BK587 := n0_; have BK589 := n1_; have HB := n2_; have HO592 := n3_; clear n0_ n1_ n2_ n3_; clear ho hb hg hat))
           go_roundg k1
           case measure => have := HK1.out; omega
           case rel => exact ⟨(y590), (wrap64 (x9_1 + 1)), (by first | rfl | (simp; done) | (simp [*]; done)), H', ⟨by have := HK1.out; omega⟩, ⟨by (with_reducible repeat (first | apply Kd.R_alloc | apply Kd.R_drewN | apply Kd.R_drew)); exact HO592.out⟩, ⟨by (with_reducible repeat (first | refine blk_drewN ?_ _ | refine blk_drew ?_ | refine blk_alloc ?_ _)); exact BK587.out⟩, ⟨by repeat (first | (with_reducible first | exact HB.out | apply below_alloc | apply pw_below_drewN | apply below_drew1 | refine below_set ?_ GE587.out | refine below_set ?_ GE589.out) | exact HB.out)⟩⟩
         · rw [if_neg c7] at H
           exact absurd H (by simp)
       · rw [if_neg c6] at H
         exact absurd H (by simp)
     · rw [if_neg c5] at H
       exact absurd H (by simp)
   · rw [if_neg c4] at H
     have c4b0 : decide (x9_1 < (l0_6.length : Int)) = false := decide_eq_false c4
     clear c4
     obtain rfl := Option.some.inj H
     go_wp2
     go_ret
     exact ⟨_, by first | rfl | (simp [errW_none, errW_some] <;> rfl) | (simp [*, errW_none, errW_some] <;> rfl), by (with_reducible repeat (first | apply Kd.R_alloc | apply Kd.R_drewN | apply Kd.R_drew)); exact HO_3.out, by repeat (first | (with_reducible first | exact HB.out | apply below_alloc | apply pw_below_drewN | apply below_drew1 | refine below_set ?_ GE587.out) | exact HB.out)⟩
end Go.Proofs.Ytklbmdakoeoplaa.X
end
section
namespace Go.Proofs.Ytklbmdakoeoplaa.X
open Go.RowKit Go.Proofs.YtklbmdakoeoplaaW.PrintWords Go.Proofs.YtklbmdakoeoplaaW.PrintLast Go.Proofs.YtklbmdakoeoplaaW.PrintMore
attribute [local go_sem] max2_int min2_int max_two min_two max_three min_three max_four min_four   -- for this text's walks alone
set_option linter.unusedVariables false
set_option linter.unusedSimpArgs false
/-! ### command_written: function 54 -/
def command_written.l0 : Nat → List ByteArray → List (S46) → Int → Int → Option (List ByteArray)
 | 0, _, _, _, _ => none
 | k + 1, x3, x7, x8, x9 => if x9 < x8 then (if 0 ≤ x9 then (if x9 < (x7.length : Int) then (if x3.length < 8796093022208 then (command_written.l0 k (x3 ++ [(rd_T46 x7 x9).f0]) x7 x8 (wrap64 (x9 + 1))) else (none)) else (none)) else (none)) else (some x3)
def command_written.f (k : Nat) (a0_0 : Int) (a0_1 : Int) (a0_2 : Int) (a0_3 : Int) (a0_4 : Int) (a0_5 : Int) (l0_6 : List (S61)) (l0_7 : List (S46)) (a0_8 : Bool) : Option (List ByteArray) := command_written.l0 k ([] : List ByteArray) l0_7 (l0_7.length : Int) 0
set_option maxHeartbeats 8000000 in
set_option maxRecDepth 100000 in
theorem command_written.calls (k : Nat) (a0_0 : Int) (a0_1 : Int) (a0_2 : Int) (a0_3 : Int) (a0_4 : Int) (a0_5 : Int) (A0_6 : Option Addr) (c0_6 : Nat) (l0_6 : List (S61)) (A0_7 : Option Addr) (c0_7 : Nat) (l0_7 : List (S46)) (a0_8 : Bool) (r : List ByteArray) (w : World) (hr0_6 : Kd.C k61 w A0_6 l0_6.length l0_6) (hc0_6 : l0_6.length ≤ c0_6) (hr0_7 : Kd.C k46 w A0_7 l0_7.length l0_7) (hc0_7 : l0_7.length ≤ c0_7) (h : command_written.f k a0_0 a0_1 a0_2 a0_3 a0_4 a0_5 l0_6 l0_7 a0_8 = some r) :
 Calls Try.prog 54 #[.agg #[.int .i64 a0_0, .int .i64 a0_1, .int .i64 a0_2, .int .i64 a0_3, .int .i64 a0_4, .int .i64 a0_5, .slice A0_6 l0_6.length c0_6, .slice A0_7 l0_7.length c0_7, .bool a0_8]] w fun e w' => ∃ v0_ : Value, e = .returned (v0_) ∧ Kd.R Kd.string 9 w' w.heap.size (fun _ => True) v0_ r ∧ Below w.heap.size w w' := by
 have hu32 := Try.underlying32
 have hu46 := Try.underlying46
 have HR0_6 := Aside0.mk hr0_6
 have HC0_6 := Aside0.mk hc0_6
 clear hr0_6 hc0_6
 have HR0_7 := Aside0.mk hr0_7
 have HC0_7 := Aside0.mk hc0_7
 clear hr0_7 hc0_7
 have HB := Aside0.mk (Below.refl w.heap.size w)
 have H : (command_written.l0 k ([] : List ByteArray) l0_7 (l0_7.length : Int) 0) = some r := h
 clear h
 have H' := Aside0.mk H
 clear H
 go_enter Try.func54, Try.ntmps54
 go_wp2_with (first | ((with_reducible refine gate_dst (N := 1) rfl ?_); refine box_event ?hg (N := 1) ?hd (cs := #[.int .i64 a0_0, .int .i64 a0_1, .int .i64 a0_2, .int .i64 a0_3, .int .i64 a0_4, .int .i64 a0_5, .slice A0_6 l0_6.length c0_6, .slice A0_7 l0_7.length c0_7, .bool a0_8]) (t := 32) ?hr ?_; (case hd => rfl); (case hg => rfl); (case hr => first | (go_simp; done) | (go_simp; rfl)); intro gb593 hg w2 hbox hb; have n0_ := Aside0.mk (below_step lb_ hb); have n1_ := Aside0.mk (hbox); have n2_ := Aside0.mk ((by rw [hg]; exact (below_size lb_) : w.heap.size ≤ gb593)); have n3_ := Aside0.mk ((by rw [hg]; exact (below_size lb_) : w.heap.size ≤ gb593)); clear HB; have HB := n0_; have BK593 := n1_; have GW593 := n2_; have GE593 := n3_; clear n0_ n1_ n2_ n3_; clear hb hbox hg; refine blk9_ BK593.out fun hcz3_0 hcz3_1 hcz3_2 hcz3_3 hcz3_4 hcz3_5 hcz3_6 hcz3_7 hcz3_8 hfz3_0 hfz3_1 hfz3_2 hfz3_3 hfz3_4 hfz3_5 hfz3_6 hfz3_7 hfz3_8 => ?_))
 go_loopg [3, 9] k (fun kq v3 v9 w' => ∃ (x3_1 : List ByteArray) (x9_1 : Int), v9 = .int .i64 x9_1 ∧ Aside0 (command_written.l0 kq x3_1 l0_7 (l0_7.length : Int) x9_1 = some r) ∧ Aside0 (kq ≤ k) ∧ Aside0 (Kd.R Kd.string 9 w' w.heap.size (fun _ => True) v3 x3_1) ∧ Aside0 (w'.heap[gb593]? = some (.cells #[.int .i64 a0_0, .int .i64 a0_1, .int .i64 a0_2, .int .i64 a0_3, .int .i64 a0_4, .int .i64 a0_5, (.slice A0_6 l0_6.length c0_6), (.slice A0_7 l0_7.length c0_7), .bool a0_8] 32 (0, 0))) ∧ Aside0 (Below w.heap.size w w'))
 case atStart => exact ⟨(([] : List ByteArray)), (0), (by first | rfl | (simp; done) | (simp [*]; done)), H', ⟨Nat.le_refl _⟩, ⟨by first | exact Kd.R_nil _ _ _ _ _ | exact Kd.N_nil _ _ _ _ _ | exact Kd.V_nil _ _ _ _ _ | exact Kd.Q_nil _ _ _ _ _ | exact Kd.S_nil _ _ _ _ _⟩, ⟨by (with_reducible repeat (first | refine blk_drewN ?_ _ | refine blk_drew ?_ | refine blk_alloc ?_ _)); exact BK593.out⟩, ⟨by repeat (first | (with_reducible first | exact HB.out | apply below_alloc | apply pw_below_drewN | apply below_drew1 | refine below_set ?_ GE593.out) | exact HB.out)⟩⟩
 case round =>
  clear H'
  try clear p2
  try clear hcz3_0 hcz3_1 hcz3_2 hcz3_3 hcz3_4 hcz3_5 hcz3_6 hcz3_7 hcz3_8
  try clear hfz3_0 hfz3_1 hfz3_2 hfz3_3 hfz3_4 hfz3_5 hfz3_6 hfz3_7 hfz3_8
  (try clear BK593)
  obtain ⟨x3_1, x9_1, rfl, HA, HK1, HO_3, BK593, HB⟩ := hrel
  cases gk with
  | zero => exact absurd HA.out (by simp [command_written.l0])
  | succ k1 =>
   have H := HA.out
   clear HA
   simp only [command_written.l0] at H
   by_cases c4 : x9_1 < (l0_7.length : Int)
   · rw [if_pos c4] at H
     have c4b0 : decide (x9_1 < (l0_7.length : Int)) = true := decide_eq_true c4
     clear c4
     by_cases c5 : 0 ≤ x9_1
     · rw [if_pos c5] at H
       have c5b0 : decide (0 ≤ x9_1) = true := decide_eq_true c5
       clear c5
       by_cases c6 : x9_1 < (l0_7.length : Int)
       · rw [if_pos c6] at H
         have c6b0 : decide (x9_1 < (l0_7.length : Int)) = true := decide_eq_true c6
         clear c6
         by_cases c7 : x3_1.length < 8796093022208
         · rw [if_pos c7] at H
           have LMc7 := Aside0.mk c7
           clear c7
           obtain ⟨y596, hy596⟩ : ∃ y_ : List ByteArray, y_ = (x3_1 ++ [(rd_T46 l0_7 x9_1).f0]) := ⟨_, rfl⟩
           replace H : (command_written.l0 k1 y596 l0_7 (l0_7.length : Int) (wrap64 (x9_1 + 1))) = some r := by first | (rw [hy596]; with_reducible exact H) | (have H2_ := (Option.bind_some _ _).symm.trans H; rw [hy596]; with_reducible exact H2_) | (have H2_ := (Option.bind_some _ _).symm.trans H; with_reducible exact H2_) | with_reducible exact H | (rw [hy596]; exact H) | exact H
           have Ny596 := Aside0.mk hy596
           clear hy596
           have H' := Aside0.mk H
           clear H
           have p594 : 0 ≤ (x9_1 : Int) := of_decide_eq_true (by first | (with_reducible assumption) | assumption)
           have q594 : x9_1 < (l0_7.length : Int) := of_decide_eq_true (by first | (with_reducible assumption) | assumption)
           obtain ⟨ad594, e594, hx594_0, hx594_1⟩ := at_T46 HR0_7.out x9_1 p594 q594
           cases e594
           replace hx594_0 := (HB.out.cell (World.block_lt_of_cell? w _ hx594_0)).trans hx594_0
           replace hx594_1 := (HB.out.cell (World.block_lt_of_cell? w _ hx594_1)).trans hx594_1
           replace p594 := eq_true p594
           replace q594 := eq_true q594
           go_wp2_with (first | ((with_reducible refine gate_dst (N := 5) rfl ?_); refine box_event ?hg (N := 5) ?hd (cs := #[.string (⟨#[]⟩ : ByteArray), .string (⟨#[]⟩ : ByteArray)]) (t := 46) ?hr ?_; (case hd => rfl); (case hg => rfl); (case hr => first | (go_simp; done) | (go_simp; rfl)); intro gb595 hg w8 hbox hb; have n0_ := Aside0.mk (Kd.R_below (kr_ HO_3.out) hb); have n1_ := Aside0.mk (blk_below (kb_ BK593.out) hb); have n2_ := Aside0.mk (below_step (by repeat (first | (with_reducible first | exact HB.out | apply below_alloc | apply pw_below_drewN | apply below_drew1 | refine below_set ?_ GE593.out) | exact HB.out)) hb); have n3_ := Aside0.mk (hbox); have n4_ := Aside0.mk ((by rw [hg]; exact (below_size (by repeat (first | (with_reducible first | exact HB.out | apply below_alloc | apply pw_below_drewN | apply below_drew1 | refine below_set ?_ GE593.out) | exact HB.out))) : w.heap.size ≤ gb595)); have n5_ := Aside0.mk ((by rw [hg]; exact (below_size (by repeat (first | (with_reducible first | exact HB.out | apply below_alloc | apply pw_below_drewN | apply below_drew1 | refine below_set ?_ GE593.out) | exact HB.out))) : w.heap.size ≤ gb595)); have n6_ := Aside0.mk ((by rw [hg]; exact Nat.ne_of_lt (blk_lt (kb_ BK593.out)) : gb593 ≠ gb595)); have n7_ := Aside0.mk ((by rw [hg]; exact Nat.ne_of_gt (blk_lt (kb_ BK593.out)) : gb595 ≠ gb593)); clear HO_3; clear BK593; clear HB; have HO_3 := n0_; have BK593 := n1_; have HB := n2_; have BK595 := n3_; have GW595 := n4_; have GE595 := n5_; have NB593_595 := n6_; have NB595_593 := n7_; clear n0_ n1_ n2_ n3_ n4_ n5_ n6_ n7_; clear hb hbox hg; have hnb9 := NB595_593.out; have hnc9 := NB593_595.out; refine blk2_ BK595.out fun hcz10_0 hcz10_1 hfz10_0 hfz10_1 => ?_) | ((with_reducible refine gate_builtin (b := .append) (xs := #[.tmp 13, .tmp 16]) rfl ?_); at_builtin; refine Kd.R_append Kd.string (w0 := w) w.heap.size rfl (.tmp 13) (.tmp 16) 68 9 (.string ⟨#[]⟩) 16 rfl Try.underlying68 info9 rfl (by decide) (by omega) u3 x3_1 ((rd_T46 l0_7 x9_1).f0) [.string ((rd_T46 l0_7 x9_1).f0)] (fun _ => True) (fun _ => False) rfl (by first | (go_simp; done) | (go_simp; rfl)) ?aP (fun _ hk => hk.elim) ?aF ?aO ?aB ?aS ?aL ?_; (case aP => exact rfl); (case aB => exact (by repeat (first | (with_reducible first | exact HB.out | apply below_alloc | apply pw_below_drewN | apply below_drew1 | refine below_set ?_ GE593.out | refine below_set ?_ GE595.out) | exact HB.out))); (case aF => exact (fun _ _ => trivial)); (case aO => exact (by (with_reducible repeat (first | apply Kd.R_alloc | apply Kd.R_drewN | apply Kd.R_drew)); exact Kd.R_mono (Kd.R_far (p := ⟨gb595, 1, none⟩) (Kd.R_far (p := ⟨gb595, 0, none⟩) (Kd.R_types HO_3.out BK595.out (by decide)) (fun _ hk => hk.2) (.string ((rd_T46 l0_7 x9_1).f0))) (fun _ hk => hk.2) (.string ((rd_T46 l0_7 x9_1).f1))) (fun _ hk => trivial))); (case aS => exact (below_size (by repeat (first | (with_reducible first | exact HB.out | apply below_alloc | apply pw_below_drewN | apply below_drew1 | refine below_set ?_ GE593.out | refine below_set ?_ GE595.out) | exact HB.out)))); (case aL => have := LMc7.out; omega); intro v597 w11 ho hb hg hat; rw [← Ny596.out] at ho; have n0_ := Aside0.mk (blk_grown (g := gb593) (o := .cells #[.int .i64 a0_0, .int .i64 a0_1, .int .i64 a0_2, .int .i64 a0_3, .int .i64 a0_4, .int .i64 a0_5, .slice A0_6 l0_6.length c0_6, .slice (some ad594) l0_7.length c0_7, .bool a0_8] 32 (0, 0)) (by (with_reducible repeat (first | refine blk_drewN ?_ _ | refine blk_drew ?_ | refine blk_alloc ?_ _)); refine blk_far ?_ NB593_595.out _; (with_reducible repeat (first | refine blk_drewN ?_ _ | refine blk_drew ?_ | refine blk_alloc ?_ _)); refine blk_far ?_ NB593_595.out _; (with_reducible repeat (first | refine blk_drewN ?_ _ | refine blk_drew ?_ | refine blk_alloc ?_ _)); exact BK593.out) hg (Kd.R_ne HO_3.out BK593.out (by decide))); have n1_ := Aside0.mk (blk_grown (g := gb595) (o := .cells #[.string ((rd_T46 l0_7 x9_1).f0), .string ((rd_T46 l0_7 x9_1).f1)] 46 (0, 0)) (by (with_reducible repeat (first | refine blk_drewN ?_ _ | refine blk_drew ?_ | refine blk_alloc ?_ _)); refine blk_put (cs := #[.string ((rd_T46 l0_7 x9_1).f0), .string (⟨#[]⟩ : ByteArray)]) ?_ 1 _ rfl; (with_reducible repeat (first | refine blk_drewN ?_ _ | refine blk_drew ?_ | refine blk_alloc ?_ _)); refine blk_put (cs := #[.string (⟨#[]⟩ : ByteArray), .string (⟨#[]⟩ : ByteArray)]) ?_ 0 _ rfl; (with_reducible repeat (first | refine blk_drewN ?_ _ | refine blk_drew ?_ | refine blk_alloc ?_ _)); exact BK595.out) hg (Kd.R_ne HO_3.out BK595.out (by decide))); have n2_ := Aside0.mk (hb); have n3_ := Aside0.mk (ho); clear BK593; clear BK595; clear HB; clear HO_3; have BK593 := n0_; have BK595 := n1_; have HB := n2_; have HO598 := n3_; clear n0_ n1_ n2_ n3_; clear ho hb hg hat))
           go_roundg k1
           case measure => have := HK1.out; omega
           case rel => exact ⟨(y596), (wrap64 (x9_1 + 1)), (by first | rfl | (simp; done) | (simp [*]; done)), H', ⟨by have := HK1.out; omega⟩, ⟨by (with_reducible repeat (first | apply Kd.R_alloc | apply Kd.R_drewN | apply Kd.R_drew)); exact HO598.out⟩, ⟨by (with_reducible repeat (first | refine blk_drewN ?_ _ | refine blk_drew ?_ | refine blk_alloc ?_ _)); exact BK593.out⟩, ⟨by repeat (first | (with_reducible first | exact HB.out | apply below_alloc | apply pw_below_drewN | apply below_drew1 | refine below_set ?_ GE593.out | refine below_set ?_ GE595.out) | exact HB.out)⟩⟩
         · rw [if_neg c7] at H
           exact absurd H (by simp)
       · rw [if_neg c6] at H
         exact absurd H (by simp)
     · rw [if_neg c5] at H
       exact absurd H (by simp)
   · rw [if_neg c4] at H
     have c4b0 : decide (x9_1 < (l0_7.length : Int)) = false := decide_eq_false c4
     clear c4
     obtain rfl := Option.some.inj H
     go_wp2
     go_ret
     exact ⟨_, by first | rfl | (simp [errW_none, errW_some] <;> rfl) | (simp [*, errW_none, errW_some] <;> rfl), by (with_reducible repeat (first | apply Kd.R_alloc | apply Kd.R_drewN | apply Kd.R_drew)); exact HO_3.out, by repeat (first | (with_reducible first | exact HB.out | apply below_alloc | apply pw_below_drewN | apply below_drew1 | refine below_set ?_ GE593.out) | exact HB.out)⟩
end Go.Proofs.Ytklbmdakoeoplaa.X
end
section
namespace Go.Proofs.Ytklbmdakoeoplaa.Strs
open Go.RowKit Go.Proofs.YtklbmdakoeoplaaW.PrintWords Go.Proofs.YtklbmdakoeoplaaW.PrintLast Go.Proofs.YtklbmdakoeoplaaW.PrintMore Go.Proofs.Ytklbmdakoeoplaa.X
set_option linter.unusedSimpArgs false
set_option linter.unusedVariables false
theorem sorted_unique {α : Type} (R : α → α → Prop) (irr : ∀ x, ¬ R x x) (tr : ∀ x y z, R x y → R y z → R x z) :
    ∀ l m : List α, l.Pairwise R → m.Pairwise R → (∀ x, x ∈ l ↔ x ∈ m) → l = m
  | [], [], _, _, _ => rfl
  | [], y :: m, _, _, h => absurd ((h y).2 (by simp)) (by simp)
  | x :: l, [], _, _, h => absurd ((h x).1 (by simp)) (by simp)
  | x :: l, y :: m, hl, hm, h => by
    rw [List.pairwise_cons] at hl hm
    have hxy : x = y := by
      rcases List.mem_cons.1 ((h x).1 (by simp)) with e | e
      · exact e
      · rcases List.mem_cons.1 ((h y).2 (by simp)) with e2 | e2
        · exact e2.symm
        · exact absurd (tr _ _ _ (hm.1 x e) (hl.1 y e2)) (irr y)
    subst hxy
    congr 1
    refine sorted_unique R irr tr l m hl.2 hm.2 (fun z => ⟨fun hz => ?_, fun hz => ?_⟩)
    · rcases List.mem_cons.1 ((h z).1 (List.mem_cons_of_mem _ hz)) with e | e
      · subst e; exact absurd (hl.1 z hz) (irr z)
      · exact e
    · rcases List.mem_cons.1 ((h z).2 (List.mem_cons_of_mem _ hz)) with e | e
      · subst e; exact absurd (hm.1 z hz) (irr z)
      · exact e
theorem toList_eq (s : ByteArray) : s.toList = s.data.toList := by
  exact ByteArray.toList_eq s
def blt (x y : ByteArray) : Prop := x.data.toList < y.data.toList
theorem blt_irrefl (x : ByteArray) : ¬ blt x x := List.lt_irrefl _
theorem blt_trans (x y z : ByteArray) (h : blt x y) (h2 : blt y z) : blt x z := List.lt_trans h h2
theorem bytes_ext {x y : ByteArray} (h : x.data.toList = y.data.toList) : x = y := ByteArray.ext (Array.toList_inj.1 h)
/-- What two lists are joined: rising, and just what one of both has. -/
def Joined (a b r : List ByteArray) : Prop := r.Pairwise blt ∧ ∀ x, x ∈ r ↔ x ∈ a ∨ x ∈ b
theorem Joined.unique {a b r r' : List ByteArray} (h : Joined a b r) (h' : Joined a b r') : r = r' :=
  sorted_unique blt blt_irrefl blt_trans r r' h.1 h'.1 (fun x => (h.2 x).trans (h'.2 x).symm)
theorem Joined.symm {a b r : List ByteArray} (h : Joined a b r) : Joined b a r := ⟨h.1, fun x => (h.2 x).trans or_comm⟩
instance (x y : ByteArray) : Decidable (blt x y) := by unfold blt; exact inferInstance
theorem sz_len (s : ByteArray) : s.size = s.data.toList.length := by rw [Array.length_toList]; rfl
/-- Is a text in a list? -/
def inB (l : List ByteArray) (x : ByteArray) : Bool := l.any (fun y => decide (y.data.toList = x.data.toList))
theorem inB_iff (l : List ByteArray) (x : ByteArray) : inB l x = true ↔ x ∈ l := by
  unfold inB
  rw [List.any_eq_true]
  constructor
  · rintro ⟨y, hy, h⟩; exact bytes_ext (of_decide_eq_true h) ▸ hy
  · intro h; exact ⟨x, h, decide_eq_true rfl⟩
theorem drop_at (l : List UInt8) (i : Nat) (h : i < l.length) : l.drop i = l[i] :: l.drop (i + 1) := List.drop_eq_getElem_cons h
theorem bt_el (s : ByteArray) (i : Nat) (h : i < s.data.toList.length) : bt s (i : Int) = ((s.data.toList[i]).toNat : Int) := by
  have hs : i < s.size := by rw [sz_len]; exact h
  unfold bt
  rw [Int.toNat_natCast, dif_pos hs]
  rfl
/-- May texts be gone through? -/
def few (l : List ByteArray) : Prop := l.length ≤ 40 ∧ ∀ x ∈ l, x.size ≤ 100
end Go.Proofs.Ytklbmdakoeoplaa.Strs
end
section
namespace Go.Proofs.Ytklbmdakoeoplaa.Strs
open Go.RowKit Go.Proofs.YtklbmdakoeoplaaW.PrintWords Go.Proofs.YtklbmdakoeoplaaW.PrintLast Go.Proofs.YtklbmdakoeoplaaW.PrintMore Go.Proofs.Ytklbmdakoeoplaa.X
set_option linter.unusedSimpArgs false
set_option linter.unusedVariables false
theorem blt_tri (x y : ByteArray) (h : ¬ blt x y) (hne : x ≠ y) : blt y x := by
  unfold blt at *
  rcases Std.lt_trichotomy x.data.toList y.data.toList with h1 | h1 | h1
  · exact absurd h1 h
  · exact absurd (bytes_ext h1) hne
  · exact h1
theorem ins_sorted (out : List ByteArray) (x : ByteArray) (q : Nat) (h : out.Pairwise blt) (h1 : ∀ y ∈ out.take q, blt y x) (h2 : ∀ y ∈ out.drop q, blt x y) :
    (out.take q ++ [x] ++ out.drop q).Pairwise blt := by
  have hh : (out.take q ++ out.drop q).Pairwise blt := by rw [List.take_append_drop]; exact h
  rw [List.pairwise_append] at hh
  rw [List.append_assoc, List.pairwise_append]
  refine ⟨hh.1, ?_, ?_⟩
  · rw [List.singleton_append, List.pairwise_cons]; exact ⟨h2, hh.2.1⟩
  · intro a ha b hb
    rw [List.singleton_append, List.mem_cons] at hb
    rcases hb with rfl | hb
    · exact h1 a ha
    · exact hh.2.2 a ha b hb
theorem ins_mem (out : List ByteArray) (x : ByteArray) (q : Nat) (y : ByteArray) : y ∈ out.take q ++ [x] ++ out.drop q ↔ y ∈ out ∨ y = x := by
  conv => rhs; rw [← List.take_append_drop q out]
  simp only [List.mem_append, List.mem_singleton]
  constructor
  · rintro ((h | h) | h)
    · exact .inl (.inl h)
    · exact .inr h
    · exact .inl (.inr h)
  · rintro ((h | h) | h)
    · exact .inl (.inl h)
    · exact .inr h
    · exact .inl (.inr h)
theorem ins_len (out : List ByteArray) (x : ByteArray) (q : Nat) : (out.take q ++ [x] ++ out.drop q).length = out.length + 1 := by
  simp only [List.length_append, List.length_take, List.length_drop, List.length_singleton]; omega
def JoinedTo (l r : List ByteArray) : Prop := r.Pairwise blt ∧ ∀ x, x ∈ r ↔ x ∈ l
theorem head_below (out : List ByteArray) (x : ByteArray) (q : Nat) (h : out.Pairwise blt) (hq : q < out.length) (hx : x ∉ out) (hb : ¬ blt out[q] x) : ∀ y ∈ out.drop q, blt x y := by
  have h0 : blt x out[q] := blt_tri _ _ hb (fun e => hx (e ▸ List.getElem_mem hq))
  intro y hy
  rw [List.drop_eq_getElem_cons hq, List.mem_cons] at hy
  rcases hy with rfl | hy
  · exact h0
  · have hh : (out.drop q).Pairwise blt := h.sublist (List.drop_sublist _ _)
    rw [List.drop_eq_getElem_cons hq, List.pairwise_cons] at hh
    exact blt_trans _ _ _ h0 (hh.1 y hy)
theorem rd_el (l : List ByteArray) (i : Nat) (h : i < l.length) : rdOf ByteArray.empty l (i : Int) = l[i] := by
  unfold rdOf; rw [Int.toNat_natCast]; simp [List.getD_eq_getElem?_getD, h]
end Go.Proofs.Ytklbmdakoeoplaa.Strs
end
section
namespace Go.Proofs.Ytklbmdakoeoplaa
open Go.RowKit
set_option linter.unusedSimpArgs false
set_option linter.unusedVariables false
theorem own_none (W : World) (base : Nat) (e : TypeId) (size : Nat) : W.ownsRow base e size (.slice none 0 0) 0 [] := ⟨by simp, .inl ⟨rfl, rfl⟩⟩
theorem own_block_le {w : World} {base n : Nat} {e : TypeId} {size : Nat} {v : Value} {xs : List Value} (h : w.ownsRow base e size v n xs) (k : Nat) (hk : v.ownBlock = some k) : base ≤ k := by
  rcases h.2 with ⟨rfl, _⟩ | ⟨g, cap, cur, rfl, hb, _⟩
  · simp [Value.ownBlock] at hk
  · have : g = k := by simpa [Value.ownBlock] using hk
    omega
section
variable {P : Program} {ops : Array Oper} {rest : List Oper} {o : Oper} {a : Act} {Q : Exit → Act → World → Prop}
theorem append_one {w0 W : World} (base : Nat) (hgd : o.guard = none) (s x : Operand) (t e : TypeId) (z : Value) (size bytes : Nat)
    (ho : o.op = .call { callee := .builtin .append, args := #[s, x], argTypes := #[t, t] })
    (ht : P.underlying t = some (.slice e)) (hinfo : (P.info? e).map (fun i => (i.zero, i.size, i.bytes)) = some (some z, size, bytes)) (hz : z.cells.size = size) (hsz : 0 < size) (hb0 : 0 < bytes)
    (v : Value) (n : Nat) (xs ys : List Value) (hs : a.eval s = v) (hx : a.eval x = .slice (some ⟨W.heap.size, 0, none⟩) 1 1) (hy : ys.length = size) (h1 : ∀ u ∈ ys, u.oneCell' = true)
    (HO : W.ownsRow base e size v n xs) (HB : Below base w0 W) (hbase : base ≤ W.heap.size) (hl : (n + 1) * bytes ≤ 140737488355328)
    (h : ∀ v1 w1, w1.ownsRow base e size v1 (n + 1) (xs ++ ys) → Below base w0 w1 → W.heap.size ≤ w1.heap.size → wpList P ops Q rest (a.put o.dst v1) w1) :
    wpList P ops Q (o :: rest) a (W.alloc (.cells ys.toArray e)) := by
  obtain ⟨i0, hi, hzz⟩ := Option.map_eq_some_iff.1 hinfo
  simp only [Prod.mk.injEq] at hzz
  obtain ⟨hz0, hz1, hz2⟩ := hzz
  have hlen : n + 1 ≤ 140737488355328 := Nat.le_trans (Nat.le_mul_of_pos_right _ hb0) hl
  refine wpList_append_own (W.alloc (.cells ys.toArray e)) hgd s x t ho base e i0 z size bytes ht hi hz0 hz1 hz2 hz hsz v n xs hs (HO.alloc _) ⟨W.heap.size, 0, none⟩ 1 1 ys hx (by omega)
    (fun j u hu => ?_) h1 (by simp only [maxLen]; omega) hl (by simp; omega) ?_
  · have ha : (⟨W.heap.size, 0, none⟩ : Addr).add j = ⟨W.heap.size, j, none⟩ := by unfold Addr.add; split <;> simp_all
    rw [ha, World.cell?_alloc_at _ _ _ _ rfl]
    simpa using hu
  · intro v1 w1 hown hg _
    refine h v1 w1 hown ((HB.alloc hbase _).grown hg (by simp; omega) (own_block_le HO)) ?_
    have := hg.size
    simp at this
    omega
end
end Go.Proofs.Ytklbmdakoeoplaa
end
section
namespace Go.Proofs.Ytklbmdakoeoplaa.Strs
open Go.RowKit Go.Maps Go.WideMaps Go.Sort Go.Proofs.YtklbmdakoeoplaaW.PrintWords Go.Proofs.YtklbmdakoeoplaaW.PrintLast Go.Proofs.YtklbmdakoeoplaaW.PrintMore Go.Proofs.Ytklbmdakoeoplaa.X
set_option linter.unusedSimpArgs false
set_option linter.unusedVariables false
/-- Lists that may be gone through. -/
def big (l : List ByteArray) : Prop := l.length ≤ 1000 ∧ ∀ x ∈ l, x.size ≤ 2000
theorem keyLaw : Keyed Try.prog 9 := string_keyed Try.underlying9
theorem zeroInt (w : World) : (zeroValue 3).run Try.prog w = .ok (.int .i64 0) w := by kernel_rfl
def klOf (s : ByteArray) : Lit := .string s.data.toList
/-- How often a text has come. -/
def came (ps : List ByteArray) (s : ByteArray) : Nat := ps.countP (fun y => decide (y.data.toList = s.data.toList))
theorem came_snoc (ps : List ByteArray) (x s : ByteArray) : came (ps ++ [x]) s = came ps s + if x.data.toList = s.data.toList then 1 else 0 := by
  unfold came
  rw [List.countP_append, List.countP_singleton]
  simp only [decide_eq_true_eq]
theorem came_le (ps : List ByteArray) (s : ByteArray) : came ps s ≤ ps.length := List.countP_le_length
theorem came_zero (ps : List ByteArray) (s : ByteArray) : came ps s = 0 ↔ s ∉ ps := by
  unfold came
  rw [List.countP_eq_zero]
  constructor
  · intro h hs; exact absurd (decide_eq_true rfl) (h s hs)
  · intro h y hy he; exact h (bytes_ext (of_decide_eq_true he) ▸ hy)
theorem map_block {H : Type} {P : Program} {w w' : World} {k : TypeId} {R : Value → Option (DataW H × List MemPlace)} {b n : Nat} {D : DataW H} (h : w.ownsMap P k R b n D) (e : w'.heap[b]? = w.heap[b]?) : w'.ownsMap P k R b n D := by
  obtain ⟨es, clock, hb, r⟩ := h
  exact ⟨es, clock, e.trans hb, r⟩
theorem own_grown {w w' : World} {B e size n : Nat} {v : Value} {xs : List Value} {b : Nat} (h : w.ownsRow B e size v n xs) (hg : w.grownBy w' (some b)) (hb : b < B) : w'.ownsRow B e size v n xs := by
  refine ⟨h.1, ?_⟩
  rcases h.2 with h0 | ⟨g, cap, cur, hv, hB, hh, rest⟩
  · exact .inl h0
  · refine .inr ⟨g, cap, cur, hv, hB, ?_, rest⟩
    rw [hg.block g (Array.getElem?_eq_some_iff.1 hh).1 (by simp; omega)]
    exact hh

theorem run_index_sl {P : Program} (T e e2 : TypeId) (n : Nat) (k : IntKind) (hT : P.underlying T = some (.array n e)) (he : P.underlying e = some (.slice e2)) (hs : (P.info? e).map (·.size) = some 1)
    (w : World) (cs : Array Value) (i : Int) (h0 : 0 ≤ i) (h1 : i < n) (hc : cs.size = n) :
    (Instr.index T (.agg cs) (.int k i)).run P w = .ok (cs.getD i.toNat undef) w := by
  obtain ⟨ti, hi, hs1⟩ := Option.map_eq_some_iff.1 hs
  have hi2 : i.toNat < cs.size := by omega
  have hagg : (isAgg e).run P w = .ok false w := by
    unfold isAgg
    rw [Sem.run_bind, run_underlying he w]
    simp
  simp [Instr.index, asIntOf, Sem.run_bind, run_underlying hT, h0, h1, sizeOf, typeInfo, hi, hs1, part, hagg, hi2]
theorem c_cells {w : World} {A : Option Addr} {l : List ByteArray} (h : Kd.C Kd.string w A l.length l) : ∀ j, j < l.length → ∃ ad : Addr, A = some ad ∧ w.cell? (ad.add j) = some (.string (l.getD j ByteArray.empty)) ∧ ad.block < w.heap.size ∧ (ad.add j).block = ad.block := by
  intro j hj
  obtain ⟨ad, rfl, hc⟩ := h.2.2 (by omega)
  obtain ⟨c, hl, hk, hcell⟩ := hc j _ (List.getElem?_eq_getElem hj)
  have e : c = [.string (l.getD j ByteArray.empty)] := by
    have : c = [Value.string l[j]] := hk
    rw [this]; simp [List.getD_eq_getElem?_getD, hj]
  subst e
  have h3 := hcell 0 _ rfl
  rw [show j * Kd.string.sz + 0 = j by simp [Kd.string, Kd.scalar]] at h3
  have hb : (ad.add j).block = ad.block := by unfold Addr.add; split <;> rfl
  exact ⟨ad, rfl, h3, by rw [← hb]; exact World.block_lt_of_cell? w _ h3, hb⟩

structure JoinState (w wr : World) (v : Value) (out ps : List ByteArray) (D : DataW Nat) : Prop where
  own : wr.ownsRow (w.heap.size + 1) 9 1 v out.length (out.map Value.string)
  map : wr.ownsMap Try.prog 9 (plainElem Try.prog 3) w.heap.size ps.length D
  atk : ∀ s : ByteArray, D.atKey (klOf s) (.lit (.int .i64 0)) = .lit (.int .i64 (came ps s))
  isMap : IsMap D
  nodup : out.Nodup
  mem : ∀ x, x ∈ out ↔ x ∈ ps
  len : out.length ≤ ps.length
  below : Below w.heap.size w wr
  size : w.heap.size + 1 ≤ wr.heap.size

theorem state_atk {D : DataW Nat} {ps : List ByteArray} (x : ByteArray) (c : Int) (hc : c = ((came ps x : Nat) : Int) + 1) (hD : IsMap D) (h : ∀ s : ByteArray, D.atKey (klOf s) (.lit (.int .i64 0)) = .lit (.int .i64 (came ps s))) (s : ByteArray) :
    (D.put (.string x.data.toList) (.lit (.int .i64 c))).atKey (klOf s) (.lit (.int .i64 0)) = .lit (.int .i64 (came (ps ++ [x]) s)) := by
  by_cases hx : x.data.toList = s.data.toList
  · have e : klOf s = .string x.data.toList := by unfold klOf; rw [hx]
    rw [e, atKey_put_same hD (by trivial), came_snoc, if_pos hx, hc]
    have : came ps x = came ps s := by unfold came; rw [hx]
    rw [this]; rfl
  · rw [atKey_put_other (by unfold klOf; intro e; injection e with e; exact hx e.symm), h s, came_snoc, if_neg hx, Nat.add_zero]
theorem JoinState.seen {w wr w1 : World} {v : Value} {out ps : List ByteArray} {D : DataW Nat} (hS : JoinState w wr v out ps D) (x : ByteArray) (hin : x ∈ ps) (c : Int) (hc : c = ((came ps x : Nat) : Int) + 1)
    (hm : w1.ownsMap Try.prog 9 (plainElem Try.prog 3) w.heap.size (ps.length + 1) (D.put (.string x.data.toList) (.lit (.int .i64 c)))) (hg : wr.grownBy w1 (some w.heap.size)) :
    JoinState w w1 v out (ps ++ [x]) (D.put (.string x.data.toList) (.lit (.int .i64 c))) where
  own := own_grown hS.own hg (Nat.lt_succ_self _)
  map := by rw [List.length_append]; exact hm
  atk := state_atk x c hc hS.isMap hS.atk
  isMap := hS.isMap.put _ _
  nodup := hS.nodup
  mem := fun y => by
    rw [List.mem_append, List.mem_singleton, hS.mem]
    constructor
    · exact .inl
    · rintro (h | rfl)
      · exact h
      · exact hin
  len := by rw [List.length_append]; have := hS.len; simp only [List.length_singleton]; omega
  below := hS.below.grown hg (by have := hS.size; omega) (fun k hk => by cases hk; exact Nat.le_refl _)
  size := Nat.le_trans hS.size hg.size
theorem JoinState.fresh {w wr w1 w2 : World} {v v1 : Value} {out ps : List ByteArray} {D : DataW Nat} (hS : JoinState w wr v out ps D) (x : ByteArray) (hin : x ∉ ps) (c : Int) (hc : c = ((came ps x : Nat) : Int) + 1)
    (hm : w1.ownsMap Try.prog 9 (plainElem Try.prog 3) w.heap.size (ps.length + 1) (D.put (.string x.data.toList) (.lit (.int .i64 c)))) (hg : wr.grownBy w1 (some w.heap.size))
    (ho : w2.ownsRow (w.heap.size + 1) 9 1 v1 (out.length + 1) (out.map Value.string ++ [.string x])) (hb : Below (w.heap.size + 1) w1 w2) :
    JoinState w w2 v1 (out ++ [x]) (ps ++ [x]) (D.put (.string x.data.toList) (.lit (.int .i64 c))) where
  own := by rw [List.length_append, List.map_append]; exact ho
  map := by rw [List.length_append]; exact map_block hm (hb.block _ (Nat.lt_succ_self _))
  atk := state_atk x c hc hS.isMap hS.atk
  isMap := hS.isMap.put _ _
  nodup := by
    rw [List.nodup_append]
    refine ⟨hS.nodup, by simp, fun a ha b hb2 => ?_⟩
    rw [List.mem_singleton] at hb2
    subst hb2
    intro e; subst e; exact hin ((hS.mem _).1 ha)
  mem := fun y => by rw [List.mem_append, List.mem_append, hS.mem]
  len := by rw [List.length_append, List.length_append]; have := hS.len; simp only [List.length_singleton]; omega
  below := (hS.below.grown hg (by have := hS.size; omega) (fun k hk => by cases hk; exact Nat.le_refl _)).trans (hb.mono (by omega))
  size := Nat.le_trans (Nat.le_trans hS.size hg.size) hb.size

/-- A list of texts, sorted. -/
def srt (l : List ByteArray) : List ByteArray := ((l.map (fun x => x.data.toList)).mergeSort (fun x y => decide (x ≤ y))).map (fun b => ⟨b.toArray⟩)
theorem enc_map (l : List ByteArray) : l.map Value.string = (l.map (fun x => x.data.toList)).map encStr := by
  rw [List.map_map]
  apply List.map_congr_left
  intro x _
  simp [encStr]
theorem enc_map' (l : List (List UInt8)) : (l.map (fun b => (⟨b.toArray⟩ : ByteArray))).map Value.string = l.map encStr := by
  rw [List.map_map]
  apply List.map_congr_left
  intro x _
  simp [encStr]
theorem srt_length (l : List ByteArray) : (srt l).length = l.length := by simp [srt]
theorem own_lower {w : World} {B B' e size n : Nat} {v : Value} {xs : List Value} (h : w.ownsRow B e size v n xs) (hB : B' ≤ B) : w.ownsRow B' e size v n xs := own_weaken h hB
theorem srt_joined {l ps : List ByteArray} (hn : l.Nodup) (hm : ∀ x, x ∈ l ↔ x ∈ ps) : (srt l).Pairwise blt ∧ ∀ x, x ∈ srt l ↔ x ∈ ps := by
  have hmem : ∀ x, x ∈ srt l ↔ x ∈ l := by
    intro x
    unfold srt
    rw [List.mem_map]
    constructor
    · rintro ⟨b, hb, rfl⟩
      rw [List.mem_mergeSort, List.mem_map] at hb
      obtain ⟨y, hy, rfl⟩ := hb
      exact hy
    · intro hx
      exact ⟨x.data.toList, by rw [List.mem_mergeSort, List.mem_map]; exact ⟨x, hx, rfl⟩, by simp⟩
  refine ⟨?_, fun x => (hmem x).trans (hm x)⟩
  have hp : ((l.map (fun x => x.data.toList)).mergeSort (fun x y => decide (x ≤ y))).Pairwise (fun x y => decide (x ≤ y) = true) :=
    List.pairwise_mergeSort (fun a b c h1 h2 => by simp only [decide_eq_true_eq] at *; exact Std.le_trans h1 h2) (fun a b => by simp only [Bool.or_eq_true, decide_eq_true_eq]; exact Std.le_total) _
  have hnd : ((l.map (fun x => x.data.toList)).mergeSort (fun x y => decide (x ≤ y))).Nodup := by
    rw [(List.mergeSort_perm _ _).nodup_iff]
    rw [List.nodup_iff_pairwise_ne, List.pairwise_map]
    exact (List.nodup_iff_pairwise_ne.1 hn).imp (fun hne e => hne (bytes_ext e))
  unfold srt
  rw [List.pairwise_map]
  have h2 := hp.and (List.nodup_iff_pairwise_ne.1 hnd)
  refine h2.imp ?_
  rintro a b ⟨hle, hne⟩
  rw [decide_eq_true_eq] at hle
  show (⟨a.toArray⟩ : ByteArray).data.toList < (⟨b.toArray⟩ : ByteArray).data.toList
  rcases Std.lt_trichotomy a b with h1 | h1 | h1
  · exact h1
  · exact absurd h1 hne
  · exact absurd hle (by rw [List.not_le]; exact h1)
theorem sort_any {B : Nat} (v : Value) (out : List ByteArray) (W : World) (h : W.ownsRow B 9 1 v out.length (out.map Value.string)) (hl : out.length ≤ 4000) :
    Calls Try.prog 58 #[v] W fun e w' => e = .returned (.tuple #[]) ∧ w'.ownsRow B 9 1 v out.length ((srt out).map Value.string) ∧ W.grownBy w' v.ownBlock := by
  rcases h.2 with ⟨rfl, hn⟩ | ⟨g, cap, cur, rfl, hbase, hb, h1, h2, h3, h4⟩
  · refine (Try.slices_Sort_string_none none 0 W).mono ?_
    rintro e w' ⟨rfl, rfl⟩
    have h0 : out = [] := by simpa using hn
    subst h0
    exact ⟨rfl, by simpa [srt] using h, World.grownBy.refl _ _⟩
  · have hc : (out.map (fun x => x.data.toList)).length = out.length := by simp
    have e4 : cur.toList.take (out.map (fun x => x.data.toList)).length = (out.map (fun x => x.data.toList)).map encStr := by rw [hc, ← enc_map]; simpa using h4
    have H := Try.slices_Sort_string g 0 cap (out.map (fun x => x.data.toList)) W (holds_of_block hb e4) (Array.getElem?_eq_some_iff.1 hb).1 (by rw [hc]; omega)
    rw [hc] at H
    refine H.mono ?_
    rintro e w' ⟨rfl, n, os, rfl⟩
    refine ⟨rfl, ?_, ?_⟩
    · have h5 := ownsRow_sorted (w := W) (n := n) (os := os) (ss := out.map (fun x => x.data.toList)) (ts := (out.map (fun x => x.data.toList)).mergeSort fun x y => decide (x ≤ y)) (by simp) hbase hb (by rw [hc]; exact h1) h2 (by simpa using h3)
      rw [hc] at h5
      unfold srt
      rw [enc_map']
      exact h5
    · exact grownBy_sorted _

set_option maxRecDepth 1000000 in
set_option maxHeartbeats 8000000 in
theorem join_any (A0 A1 : Option Addr) (c0 c1 : Nat) (l0 l1 : List ByteArray) (w : World) (h0 : Kd.C Kd.string w A0 l0.length l0) (h1 : Kd.C Kd.string w A1 l1.length l1) (f0 : big l0) (f1 : big l1) :
    Calls Try.prog 52 #[.slice A0 l0.length c0, .slice A1 l1.length c1] w fun e w' => ∃ v r, e = .returned v ∧ w'.ownsRow w.heap.size 9 1 v r.length (r.map Value.string) ∧ Joined l0 l1 r ∧ Below w.heap.size w w' := by
  have hi : (Try.prog.info? 9).map (fun i => (i.zero, i.size, i.bytes)) = some (some (.string ByteArray.empty), 1, 16) := by kernel_rfl
  have HI := Lib.hid hi
  clear hi
  have hmm := @run_makeMap Try.prog
  have hidx : ∀ (w : World) (x y : Value) (i : Int), 0 ≤ i → i < 2 → (Instr.index 81 (.agg #[x, y]) (.int .i64 i)).run Try.prog w = .ok ((#[x, y] : Array Value).getD i.toNat undef) w := fun w x y i h0 h1 => run_index_sl 81 68 9 2 .i64 Try.underlying81 Try.underlying68 (by kernel_rfl) w _ i h0 h1 rfl
  have K0 := Lib.hid (c_cells h0)
  have K1 := Lib.hid (c_cells h1)
  have n0 := f0.1
  have n1 := f1.1
  have F0 := Lib.hid f0.2
  have F1 := Lib.hid f1.2
  clear h0 h1 f0 f1
  go_enter Try.func52, Try.ntmps52
  go_wp2
  refine wp_loop_rounds 3 ?_
  rw [rounds_succ]
  go_wp2
  go_loopw [6, 20] (fun v i wr => ∃ (j : Nat) (out : List ByteArray) (D : DataW Nat), j ≤ l0.length ∧ i = .int .i64 j ∧ Hid (JoinState w wr v out (l0.take (j)) D)) (fun _ i _ => l0.length - (intOf i).toNat)
  case atStart => exact ⟨0, [], .map [], by omega, rfl, Lib.hid ⟨own_none _ _ _ _, World.ownsMap_made w _ _ _, fun s => by simp [came, DataW.atKey], isMap_empty, by simp, by simp, by simp, (Below.refl _ w).alloc (Nat.le_refl _) _, by simp⟩⟩
  case round =>
    obtain ⟨j, out, D, hj, rfl, hS⟩ := hrel
    by_cases hlt : j < l0.length
    · obtain ⟨ad, rfl, hc, hk, ha⟩ := K0.out j hlt
      have hcell : wr.cell? (ad.add j) = some (.string (l0.getD j ByteArray.empty)) := by rw [hS.out.below.cell (p := ad.add j) (by rw [ha]; exact hk), hc]
      have hel : l0.getD j ByteArray.empty = l0[j] := by simp [List.getD_eq_getElem?_getD, hlt]
      have hmem : l0.getD j ByteArray.empty ∈ l0 := by rw [hel]; exact List.getElem_mem hlt
      have htake : (l0.take (j + 1)) = (l0.take (j)) ++ [l0.getD j ByteArray.empty] := by rw [hel, List.take_succ_eq_append_getElem hlt]
      have hxs := F0.out _ hmem
      clear hc hk ha hmem hel
      generalize l0.getD j ByteArray.empty = x at hcell htake hxs
      have HT := Lib.hid htake
      have hlen : x.size ≤ maxLen := by unfold maxLen; omega
      have hpl : (l0.take (j)).length = j := by rw [List.length_take]; omega
      have hsz := hS.out.size
      have hcm := came_le (l0.take (j)) x
      clear htake
      have hlo := hS.out.len
      by_cases hin : x ∈ (l0.take (j))
      · have h0 : came (l0.take (j)) x ≠ 0 := fun e => (came_zero _ _).1 e hin
        have h1 : (((came (l0.take (j)) x : Nat) : Int) + 1 == 1) = false := by simp; omega
        go_wp2_with (first | (at_lookup; refine wpList_lookup_own_int _ rfl _ _ 80 rfl 9 3 .i64 keyLaw Try.underlying80 Try.underlying3 (zeroInt _) w.heap.size _ _ rfl hS.out.map _ _ rfl (keyOf_string_mk Try.underlying9 hlen) ?_; intro c hat hwc; have hcE : c = ((came (l0.take (j)) x : Nat) : Int) := (by have h2 := hS.out.atk x; rw [show klOf x = Lit.string x.data.toList from rfl, hat] at h2; injection h2 with h2; injection h2); subst hcE; clear hat hwc) | (at_mapUpdate; refine wpList_mapUpdate_own _ rfl _ _ _ 80 rfl 9 3 keyLaw Try.underlying80 _ w.heap.size _ _ rfl hS.out.map (by unfold maxLen; omega) _ _ _ rfl rfl (keyOf_string_mk Try.underlying9 hlen) _ [] (plainElem_int Try.underlying3 (WalkArith.wf_i64 (by omega))) ?_; intro w1 hown1 hgrow1; have HM1 := Lib.hid hown1; have HG1 := Lib.hid hgrow1; have hs1 := hgrow1.size; have HO1 := Lib.hid (own_grown hS.out.own hgrow1 (Nat.lt_succ_self _)); clear hown1 hgrow1) | (at_lookup; refine wpList_lookup_own_int _ rfl _ _ 80 rfl 9 3 .i64 keyLaw Try.underlying80 Try.underlying3 (zeroInt _) w.heap.size _ _ rfl HM1.out _ _ rfl (keyOf_string_mk Try.underlying9 hlen) ?_; intro c2 hat hwc; have hcE2 : c2 = ((came (l0.take (j)) x : Nat) : Int) + 1 := (by rw [atKey_put_same hS.out.isMap (by trivial)] at hat; injection hat with hat; injection hat with _ hat; exact hat.symm); subst hcE2; clear hat hwc))
        go_roundw
        case rel => exact ⟨j + 1, _, _, by omega, by go_num, Lib.hid (by rw [HT.out]; exact hS.out.seen x hin _ rfl HM1.out HG1.out)⟩
        case measure => simp [intOf]; omega
      · have h0 : came (l0.take (j)) x = 0 := (came_zero _ _).2 hin
        have h1 : (((came (l0.take (j)) x : Nat) : Int) + 1 == 1) = true := by simp; omega
        go_wp2_with (first | (at_lookup; refine wpList_lookup_own_int _ rfl _ _ 80 rfl 9 3 .i64 keyLaw Try.underlying80 Try.underlying3 (zeroInt _) w.heap.size _ _ rfl hS.out.map _ _ rfl (keyOf_string_mk Try.underlying9 hlen) ?_; intro c hat hwc; have hcE : c = ((came (l0.take (j)) x : Nat) : Int) := (by have h2 := hS.out.atk x; rw [show klOf x = Lit.string x.data.toList from rfl, hat] at h2; injection h2 with h2; injection h2); subst hcE; clear hat hwc) | (at_mapUpdate; refine wpList_mapUpdate_own _ rfl _ _ _ 80 rfl 9 3 keyLaw Try.underlying80 _ w.heap.size _ _ rfl hS.out.map (by unfold maxLen; omega) _ _ _ rfl rfl (keyOf_string_mk Try.underlying9 hlen) _ [] (plainElem_int Try.underlying3 (WalkArith.wf_i64 (by omega))) ?_; intro w1 hown1 hgrow1; have HM1 := Lib.hid hown1; have HG1 := Lib.hid hgrow1; have hs1 := hgrow1.size; have HO1 := Lib.hid (own_grown hS.out.own hgrow1 (Nat.lt_succ_self _)); clear hown1 hgrow1) | (at_lookup; refine wpList_lookup_own_int _ rfl _ _ 80 rfl 9 3 .i64 keyLaw Try.underlying80 Try.underlying3 (zeroInt _) w.heap.size _ _ rfl HM1.out _ _ rfl (keyOf_string_mk Try.underlying9 hlen) ?_; intro c2 hat hwc; have hcE2 : c2 = 1 := (by rw [atKey_put_same hS.out.isMap (by trivial)] at hat; injection hat with hat; injection hat with _ hat; exact hat.symm); subst hcE2; clear hat hwc) | (at_builtin; refine append_one (w0 := w1) (w.heap.size + 1) rfl (.tmp 32) (.tmp 34) 68 9 (.string ByteArray.empty) 1 16 rfl Try.underlying68 HI.out rfl (by decide) (by decide) _ _ _ [.string x] rfl rfl rfl (by simp [Value.oneCell']) HO1.out (Below.refl _ _) (Nat.le_trans hsz hs1) (by omega) ?_; intro v1 w2 hown3 hb3 hs3; have HO3 := Lib.hid hown3; have HB3 := Lib.hid hb3; clear hown3 hb3))
        go_roundw
        case rel => exact ⟨j + 1, _, _, by omega, by go_num, Lib.hid (by rw [HT.out]; exact hS.out.fresh x hin 1 (by rw [h0]; rfl) HM1.out HG1.out HO3.out HB3.out)⟩
        case measure => simp [intOf]; omega
    · obtain rfl : j = l0.length := by omega
      have HS := hS
      clear hS hlt
      obtain ⟨wo, rfl⟩ : ∃ wo : World, wo = wr := ⟨_, rfl⟩
      go_wp2
      rw [rounds_succ]
      go_wp2
      go_loopw [6, 20] (fun v i wr => ∃ (j : Nat) (out : List ByteArray) (D : DataW Nat), j ≤ l1.length ∧ i = .int .i64 j ∧ Hid (JoinState w wr v out ((l0 ++ l1.take (j))) D)) (fun _ i _ => l1.length - (intOf i).toNat)
      case atStart => exact ⟨0, out, D, by omega, rfl, Lib.hid (by have h := HS.out; rw [List.take_length] at h; rw [List.take_zero, List.append_nil]; exact h)⟩
      case round =>
        obtain ⟨j, out, D, hj, rfl, hS⟩ := hrel
        by_cases hlt : j < l1.length
        · obtain ⟨ad, rfl, hc, hk, ha⟩ := K1.out j hlt
          have hcell : wr.cell? (ad.add j) = some (.string (l1.getD j ByteArray.empty)) := by rw [hS.out.below.cell (p := ad.add j) (by rw [ha]; exact hk), hc]
          have hel : l1.getD j ByteArray.empty = l1[j] := by simp [List.getD_eq_getElem?_getD, hlt]
          have hmem : l1.getD j ByteArray.empty ∈ l1 := by rw [hel]; exact List.getElem_mem hlt
          have htake : ((l0 ++ l1.take (j + 1))) = ((l0 ++ l1.take (j))) ++ [l1.getD j ByteArray.empty] := by rw [hel, List.take_succ_eq_append_getElem hlt]; rw [List.append_assoc]
          have hxs := F1.out _ hmem
          clear hc hk ha hmem hel
          generalize l1.getD j ByteArray.empty = x at hcell htake hxs
          have HT := Lib.hid htake
          have hlen : x.size ≤ maxLen := by unfold maxLen; omega
          have hpl : ((l0 ++ l1.take (j))).length = l0.length + j := by rw [List.length_append]; rw [List.length_take]; omega
          have hsz := hS.out.size
          have hcm := came_le ((l0 ++ l1.take (j))) x
          clear htake
          have hlo := hS.out.len
          by_cases hin : x ∈ ((l0 ++ l1.take (j)))
          · have h0 : came ((l0 ++ l1.take (j))) x ≠ 0 := fun e => (came_zero _ _).1 e hin
            have h1 : (((came ((l0 ++ l1.take (j))) x : Nat) : Int) + 1 == 1) = false := by simp; omega
            go_wp2_with (first | (at_lookup; refine wpList_lookup_own_int _ rfl _ _ 80 rfl 9 3 .i64 keyLaw Try.underlying80 Try.underlying3 (zeroInt _) w.heap.size _ _ rfl hS.out.map _ _ rfl (keyOf_string_mk Try.underlying9 hlen) ?_; intro c hat hwc; have hcE : c = ((came ((l0 ++ l1.take (j))) x : Nat) : Int) := (by have h2 := hS.out.atk x; rw [show klOf x = Lit.string x.data.toList from rfl, hat] at h2; injection h2 with h2; injection h2); subst hcE; clear hat hwc) | (at_mapUpdate; refine wpList_mapUpdate_own _ rfl _ _ _ 80 rfl 9 3 keyLaw Try.underlying80 _ w.heap.size _ _ rfl hS.out.map (by unfold maxLen; omega) _ _ _ rfl rfl (keyOf_string_mk Try.underlying9 hlen) _ [] (plainElem_int Try.underlying3 (WalkArith.wf_i64 (by omega))) ?_; intro w1 hown1 hgrow1; have HM1 := Lib.hid hown1; have HG1 := Lib.hid hgrow1; have hs1 := hgrow1.size; have HO1 := Lib.hid (own_grown hS.out.own hgrow1 (Nat.lt_succ_self _)); clear hown1 hgrow1) | (at_lookup; refine wpList_lookup_own_int _ rfl _ _ 80 rfl 9 3 .i64 keyLaw Try.underlying80 Try.underlying3 (zeroInt _) w.heap.size _ _ rfl HM1.out _ _ rfl (keyOf_string_mk Try.underlying9 hlen) ?_; intro c2 hat hwc; have hcE2 : c2 = ((came ((l0 ++ l1.take (j))) x : Nat) : Int) + 1 := (by rw [atKey_put_same hS.out.isMap (by trivial)] at hat; injection hat with hat; injection hat with _ hat; exact hat.symm); subst hcE2; clear hat hwc))
            go_roundw
            case rel => exact ⟨j + 1, _, _, by omega, by go_num, Lib.hid (by rw [HT.out]; exact hS.out.seen x hin _ rfl HM1.out HG1.out)⟩
            case measure => simp [intOf]; omega
          · have h0 : came ((l0 ++ l1.take (j))) x = 0 := (came_zero _ _).2 hin
            have h1 : (((came ((l0 ++ l1.take (j))) x : Nat) : Int) + 1 == 1) = true := by simp; omega
            go_wp2_with (first | (at_lookup; refine wpList_lookup_own_int _ rfl _ _ 80 rfl 9 3 .i64 keyLaw Try.underlying80 Try.underlying3 (zeroInt _) w.heap.size _ _ rfl hS.out.map _ _ rfl (keyOf_string_mk Try.underlying9 hlen) ?_; intro c hat hwc; have hcE : c = ((came ((l0 ++ l1.take (j))) x : Nat) : Int) := (by have h2 := hS.out.atk x; rw [show klOf x = Lit.string x.data.toList from rfl, hat] at h2; injection h2 with h2; injection h2); subst hcE; clear hat hwc) | (at_mapUpdate; refine wpList_mapUpdate_own _ rfl _ _ _ 80 rfl 9 3 keyLaw Try.underlying80 _ w.heap.size _ _ rfl hS.out.map (by unfold maxLen; omega) _ _ _ rfl rfl (keyOf_string_mk Try.underlying9 hlen) _ [] (plainElem_int Try.underlying3 (WalkArith.wf_i64 (by omega))) ?_; intro w1 hown1 hgrow1; have HM1 := Lib.hid hown1; have HG1 := Lib.hid hgrow1; have hs1 := hgrow1.size; have HO1 := Lib.hid (own_grown hS.out.own hgrow1 (Nat.lt_succ_self _)); clear hown1 hgrow1) | (at_lookup; refine wpList_lookup_own_int _ rfl _ _ 80 rfl 9 3 .i64 keyLaw Try.underlying80 Try.underlying3 (zeroInt _) w.heap.size _ _ rfl HM1.out _ _ rfl (keyOf_string_mk Try.underlying9 hlen) ?_; intro c2 hat hwc; have hcE2 : c2 = 1 := (by rw [atKey_put_same hS.out.isMap (by trivial)] at hat; injection hat with hat; injection hat with _ hat; exact hat.symm); subst hcE2; clear hat hwc) | (at_builtin; refine append_one (w0 := w1) (w.heap.size + 1) rfl (.tmp 32) (.tmp 34) 68 9 (.string ByteArray.empty) 1 16 rfl Try.underlying68 HI.out rfl (by decide) (by decide) _ _ _ [.string x] rfl rfl rfl (by simp [Value.oneCell']) HO1.out (Below.refl _ _) (Nat.le_trans hsz hs1) (by omega) ?_; intro v1 w2 hown3 hb3 hs3; have HO3 := Lib.hid hown3; have HB3 := Lib.hid hb3; clear hown3 hb3))
            go_roundw
            case rel => exact ⟨j + 1, _, _, by omega, by go_num, Lib.hid (by rw [HT.out]; exact hS.out.fresh x hin 1 (by rw [h0]; rfl) HM1.out HG1.out HO3.out HB3.out)⟩
            case measure => simp [intOf]; omega
        · obtain rfl : j = l1.length := by omega
          have HE := Lib.hid (by have h := hS.out; rw [List.take_length] at h; exact h : JoinState w wr _ out (l0 ++ l1) D)
          have hoL : out.length ≤ 4000 := by have h := HE.out.len; rw [List.length_append] at h; omega
          clear hS hlt
          go_wp2
          rw [rounds_succ]
          go_wp2_with ((go_at_call 58); refine (sort_any _ out wr HE.out.own hoL).mono ?_; rintro e w3 ⟨rfl, hs3, hg3⟩; have HSR := Lib.hid hs3; have HG3 := Lib.hid hg3; clear hs3 hg3)
          go_ret
          exact ⟨_, srt out, rfl, by rw [srt_length]; exact own_lower HSR.out (Nat.le_succ _), ⟨(srt_joined HE.out.nodup HE.out.mem).1, fun x => by rw [← List.mem_append]; exact (srt_joined HE.out.nodup HE.out.mem).2 x⟩, HE.out.below.grown HG3.out (by have := HE.out.size; omega) (fun k hk => by have := own_block_le HE.out.own k hk; omega)⟩
def dd : List ByteArray → List ByteArray → List ByteArray
  | acc, [] => acc
  | acc, x :: l => if inB acc x = true then dd acc l else dd (acc ++ [x]) l
theorem dd_nodup : ∀ (l acc : List ByteArray), acc.Nodup → (dd acc l).Nodup
  | [], acc, h => h
  | x :: l, acc, h => by
    unfold dd
    split
    · exact dd_nodup l acc h
    · rename_i hx0
      have hx : x ∉ acc := fun e => hx0 ((inB_iff _ _).2 e)
      refine dd_nodup l _ ?_
      rw [List.nodup_append]
      exact ⟨h, by simp, fun a ha b hb => by rw [List.mem_singleton] at hb; subst hb; intro e; subst e; exact hx ha⟩
theorem dd_mem : ∀ (l acc : List ByteArray) (y : ByteArray), y ∈ dd acc l ↔ y ∈ acc ∨ y ∈ l
  | [], acc, y => by simp [dd]
  | x :: l, acc, y => by
    unfold dd
    split
    · rename_i hx0
      have hx := (inB_iff _ _).1 hx0
      rw [dd_mem l acc y, List.mem_cons]
      constructor
      · rintro (h | h)
        · exact .inl h
        · exact .inr (.inr h)
      · rintro (h | rfl | h)
        · exact .inl h
        · exact .inl hx
        · exact .inr h
    · rw [dd_mem l _ y, List.mem_append, List.mem_singleton, List.mem_cons]
      constructor
      · rintro ((h | h) | h)
        · exact .inl h
        · exact .inr (.inl h)
        · exact .inr (.inr h)
      · rintro (h | h | h)
        · exact .inl (.inl h)
        · exact .inl (.inr h)
        · exact .inr h
/-- What keys.Join gives. -/
def joinB (l0 l1 : List ByteArray) : List ByteArray := srt (dd [] (l0 ++ l1))
theorem joinB_joined (l0 l1 : List ByteArray) : Joined l0 l1 (joinB l0 l1) := by
  have h := srt_joined (ps := l0 ++ l1) (dd_nodup (l0 ++ l1) [] List.nodup_nil) (fun x => by rw [dd_mem]; simp)
  exact ⟨h.1, fun x => by rw [← List.mem_append]; exact h.2 x⟩
instance (l : List ByteArray) : Decidable (big l) := by unfold big; exact inferInstance
end Go.Proofs.Ytklbmdakoeoplaa.Strs
namespace Go.Proofs.Ytklbmdakoeoplaa.X
open Go.RowKit Go.Proofs.Ytklbmdakoeoplaa.Strs Go.Proofs.YtklbmdakoeoplaaW.PrintWords Go.Proofs.YtklbmdakoeoplaaW.PrintLast Go.Proofs.YtklbmdakoeoplaaW.PrintMore
def keys_Join.f (l0 : List ByteArray) (l1 : List ByteArray) : Option (List ByteArray) := if big l0 ∧ big l1 then some (joinB l0 l1) else none
theorem keys_Join.calls (A0 : Option Addr) (c0 : Nat) (l0 : List ByteArray) (A1 : Option Addr) (c1 : Nat) (l1 : List ByteArray) (r : List ByteArray) (w : World) (hr0 : Kd.C Kd.string w A0 l0.length l0) (hc0 : l0.length ≤ c0) (hr1 : Kd.C Kd.string w A1 l1.length l1) (hc1 : l1.length ≤ c1) (h : keys_Join.f l0 l1 = some r) :
    Calls Try.prog 52 #[.slice A0 l0.length c0, .slice A1 l1.length c1] w fun e w' => ∃ v0_ : Value, e = .returned (v0_) ∧ Kd.R Kd.string 9 w' w.heap.size (fun _ => True) v0_ r ∧ Below w.heap.size w w' := by
  unfold keys_Join.f at h
  by_cases hb : big l0 ∧ big l1
  · rw [if_pos hb] at h
    obtain rfl := Option.some.inj h
    refine (join_any A0 A1 c0 c1 l0 l1 w hr0 hr1 hb.1 hb.2).mono ?_
    rintro e w' ⟨v, r, rfl, ho, hj, hB⟩
    obtain rfl := hj.unique (joinB_joined l0 l1)
    exact ⟨v, rfl, Kd.R_of_own ho (fun _ _ => trivial), hB⟩
  · rw [if_neg hb] at h; cases h
end Go.Proofs.Ytklbmdakoeoplaa.X
end
section
namespace Go.Proofs.Ytklbmdakoeoplaa.X
open Go.RowKit Go.Proofs.YtklbmdakoeoplaaW.PrintWords Go.Proofs.YtklbmdakoeoplaaW.PrintLast Go.Proofs.YtklbmdakoeoplaaW.PrintMore
attribute [local go_sem] max2_int min2_int max_two min_two max_three min_three max_four min_four   -- for this text's walks alone
set_option linter.unusedVariables false
set_option linter.unusedSimpArgs false
/-! ### command_Keys: function 45 -/
def command_Keys.f (k : Nat) (a0_0 : Int) (a0_1 : Int) (a0_2 : Int) (a0_3 : Int) (a0_4 : Int) (a0_5 : Int) (l0_6 : List (S61)) (l0_7 : List (S46)) (a0_8 : Bool) : Option (List ByteArray) := (command_read.f k a0_0 a0_1 a0_2 a0_3 a0_4 a0_5 l0_6 l0_7 a0_8).bind fun t600 => ((command_written.f k a0_0 a0_1 a0_2 a0_3 a0_4 a0_5 l0_6 l0_7 a0_8).bind fun t603 => ((keys_Join.f t600 t603).bind fun t606 => (some t606)))
set_option maxHeartbeats 8000000 in
set_option maxRecDepth 100000 in
theorem command_Keys.calls (k : Nat) (a0_0 : Int) (a0_1 : Int) (a0_2 : Int) (a0_3 : Int) (a0_4 : Int) (a0_5 : Int) (A0_6 : Option Addr) (c0_6 : Nat) (l0_6 : List (S61)) (A0_7 : Option Addr) (c0_7 : Nat) (l0_7 : List (S46)) (a0_8 : Bool) (r : List ByteArray) (w : World) (hr0_6 : Kd.C k61 w A0_6 l0_6.length l0_6) (hc0_6 : l0_6.length ≤ c0_6) (hr0_7 : Kd.C k46 w A0_7 l0_7.length l0_7) (hc0_7 : l0_7.length ≤ c0_7) (h : command_Keys.f k a0_0 a0_1 a0_2 a0_3 a0_4 a0_5 l0_6 l0_7 a0_8 = some r) :
 Calls Try.prog 45 #[.agg #[.int .i64 a0_0, .int .i64 a0_1, .int .i64 a0_2, .int .i64 a0_3, .int .i64 a0_4, .int .i64 a0_5, .slice A0_6 l0_6.length c0_6, .slice A0_7 l0_7.length c0_7, .bool a0_8]] w fun e w' => ∃ v0_ : Value, e = .returned (v0_) ∧ Kd.R Kd.string 9 w' w.heap.size (fun _ => True) v0_ r ∧ Below w.heap.size w w' := by
 have hu32 := Try.underlying32
 have HR0_6 := Aside0.mk hr0_6
 have HC0_6 := Aside0.mk hc0_6
 clear hr0_6 hc0_6
 have HR0_7 := Aside0.mk hr0_7
 have HC0_7 := Aside0.mk hc0_7
 clear hr0_7 hc0_7
 have HB := Aside0.mk (Below.refl w.heap.size w)
 have H : ((command_read.f k a0_0 a0_1 a0_2 a0_3 a0_4 a0_5 l0_6 l0_7 a0_8).bind fun t600 => ((command_written.f k a0_0 a0_1 a0_2 a0_3 a0_4 a0_5 l0_6 l0_7 a0_8).bind fun t603 => ((keys_Join.f t600 t603).bind fun t606 => (some t606)))) = some r := h
 clear h
 obtain ⟨t600, A2, H⟩ := bs_ H
 obtain ⟨t603, A3, H⟩ := bs_ H
 obtain ⟨t606, A4, H⟩ := bs_ H
 obtain rfl := Option.some.inj H
 go_enter Try.func45, Try.ntmps45
 try go_wp2_with (first | ((with_reducible refine gate_dst (N := 1) rfl ?_); refine box_event ?hg (N := 1) ?hd (cs := #[.int .i64 a0_0, .int .i64 a0_1, .int .i64 a0_2, .int .i64 a0_3, .int .i64 a0_4, .int .i64 a0_5, .slice A0_6 l0_6.length c0_6, .slice A0_7 l0_7.length c0_7, .bool a0_8]) (t := 32) ?hr ?_; (case hd => rfl); (case hg => rfl); (case hr => first | (go_simp; done) | (go_simp; rfl)); intro gb599 hg w5 hbox hb; have n0_ := Aside0.mk (below_step lb_ hb); have n1_ := Aside0.mk (hbox); have n2_ := Aside0.mk ((by rw [hg]; exact (below_size lb_) : w.heap.size ≤ gb599)); have n3_ := Aside0.mk ((by rw [hg]; exact (below_size lb_) : w.heap.size ≤ gb599)); clear HB; have HB := n0_; have BK599 := n1_; have GW599 := n2_; have GE599 := n3_; clear n0_ n1_ n2_ n3_; clear hb hbox hg))
 have n0_ := Aside0.mk (blk_drew BK599.out)
 have n1_ := Aside0.mk (below_drew1 HB.out)
 clear BK599
 clear HB
 have BK599 := n0_
 have HB := n1_
 clear n0_ n1_
 refine start_ (n := 6) (S := fun w' => w'.heap[gb599]? = some (.cells #[.int .i64 a0_0, .int .i64 a0_1, .int .i64 a0_2, .int .i64 a0_3, .int .i64 a0_4, .int .i64 a0_5, .slice A0_6 l0_6.length c0_6, .slice A0_7 l0_7.length c0_7, .bool a0_8] 32 (0, 0))) (ds := []) #[false, false, false, false, false, false] (by kernel_rfl) rfl rfl BK599.out (fun hHeld => ?_)
 generalize w5.drew = w6 at BK599 HB hHeld ⊢
 refine take_ (i := 0) (N := some 3) (v := ?_) (a' := ?_) #[true, false, false, false, false, false] rfl rfl (by kernel_rfl) (fun _ _ _ h => h) (Or.inl ⟨by rfl, ?_⟩) hHeld ?_ ?_
 rotate_left
 · rintro w' s0
   first | (refine blk_yield2 (T := 32) s0 ?_ ⟨_, Try.underlying32, rfl⟩ ?_; exact ⟨rfl, rfl⟩; kernel_rfl) | (refine blk9_ s0 fun _ _ _ _ _ _ _ _ _ _ _ _ _ _ _ _ _ _ => ?_; go_simp; with_reducible rfl)
 rotate_left
 · simp only [Act.put, List.setIfInBounds_toArray, List.set_cons_zero, List.set_cons_succ, i64_w, i32_w]
   rfl
 refine take_ (i := 2) (N := some 5) (v := ?_) (a' := ?_) #[true, false, true, false, false, false] rfl rfl (by kernel_rfl) (fun _ _ _ h => h) (Or.inl ⟨by rfl, ?_⟩) hHeld ?_ ?_
 rotate_left
 · rintro w' s0
   first | (refine blk_yield2 (T := 32) s0 ?_ ⟨_, Try.underlying32, rfl⟩ ?_; exact ⟨rfl, rfl⟩; kernel_rfl) | (refine blk9_ s0 fun _ _ _ _ _ _ _ _ _ _ _ _ _ _ _ _ _ _ => ?_; go_simp; with_reducible rfl)
 rotate_left
 · simp only [Act.put, List.setIfInBounds_toArray, List.set_cons_zero, List.set_cons_succ, i64_w, i32_w]
   rfl
 refine one_ (i := 1) (N := some 4) #[true, true, true, false, false, false] rfl rfl (by kernel_rfl) (by decide) (fun K hK => ?_)
 refine goes_ Try.func53 (by kernel_rfl) rfl #[.agg #[.int .i64 a0_0, .int .i64 a0_1, .int .i64 a0_2, .int .i64 a0_3, .int .i64 a0_4, .int .i64 a0_5, .slice A0_6 l0_6.length c0_6, .slice A0_7 l0_7.length c0_7, .bool a0_8]] (by rfl) rfl rfl (by (try simp only [List.map_toArray, List.map_cons, List.map_nil]); first | done | rfl | (simp only [List.length_drop, List.length_take]; rfl)) ?_
 with_reducible refine (command_read.calls k a0_0 a0_1 a0_2 a0_3 a0_4 a0_5 _ _ l0_6 _ _ l0_7 a0_8 t600 _ ?side1 ?side2 ?side3 ?side4 A2.out).mono ?_
 (case side1 => exact kc_ (Kd.C_below HR0_6.out HB.out))
 (case side2 => exact HC0_6.out)
 (case side3 => exact kc_ (Kd.C_below HR0_7.out HB.out))
 (case side4 => exact HC0_7.out)
 rintro e w7 ⟨v601, rfl, ho0, hb⟩
 refine ⟨_, rfl, ?_⟩
 have n0_ := Aside0.mk (Kd.R_lower ho0 (below_size (by repeat (first | (with_reducible first | exact HB.out | apply below_alloc | apply pw_below_drewN | apply below_drew1 | refine below_set ?_ GE599.out) | exact HB.out))))
 have n1_ := Aside0.mk (blk_below (kb_ BK599.out) hb)
 have n2_ := Aside0.mk (below_step (by repeat (first | (with_reducible first | exact HB.out | apply below_alloc | apply pw_below_drewN | apply below_drew1 | refine below_set ?_ GE599.out) | exact HB.out)) hb)
 clear BK599
 clear HB
 have HO602 := n0_
 have BK599 := n1_
 have HB := n2_
 clear n0_ n1_ n2_
 (try clear hb)
 (try clear hb2)
 (try clear hk)
 (try clear hi)
 (try clear ho0)
 refine hK.out _ _ BK599.out (fun hHeld => ?_)
 clear hK K
 refine norm_ (a' := ?_) ?_ ?_
 rotate_left
 · show Act.put _ (some 4) _ = _
   simp only [Act.put, List.setIfInBounds_toArray, List.set_cons_zero, List.set_cons_succ, i64_w, i32_w]
   rfl
 refine one_ (i := 3) (N := some 6) #[true, true, true, true, false, false] rfl rfl (by kernel_rfl) (by decide) (fun K hK => ?_)
 refine goes_ Try.func54 (by kernel_rfl) rfl #[.agg #[.int .i64 a0_0, .int .i64 a0_1, .int .i64 a0_2, .int .i64 a0_3, .int .i64 a0_4, .int .i64 a0_5, .slice A0_6 l0_6.length c0_6, .slice A0_7 l0_7.length c0_7, .bool a0_8]] (by rfl) rfl rfl (by (try simp only [List.map_toArray, List.map_cons, List.map_nil]); first | done | rfl | (simp only [List.length_drop, List.length_take]; rfl)) ?_
 with_reducible refine (command_written.calls k a0_0 a0_1 a0_2 a0_3 a0_4 a0_5 _ _ l0_6 _ _ l0_7 a0_8 t603 _ ?side1 ?side2 ?side3 ?side4 A3.out).mono ?_
 (case side1 => exact kc_ (Kd.C_below HR0_6.out HB.out))
 (case side2 => exact HC0_6.out)
 (case side3 => exact kc_ (Kd.C_below HR0_7.out HB.out))
 (case side4 => exact HC0_7.out)
 rintro e w8 ⟨v604, rfl, ho0, hb⟩
 refine ⟨_, rfl, ?_⟩
 have n0_ := Aside0.mk (Kd.R_elder' (kr_ HO602.out) (Kd.R_base ho0) hb)
 have n1_ := Aside0.mk (Kd.R_lower (Kd.R_new' ho0 (Kd.R_lt (kr_ HO602.out))) (below_size (by repeat (first | (with_reducible first | exact HB.out | apply below_alloc | apply pw_below_drewN | apply below_drew1 | refine below_set ?_ GE599.out) | exact HB.out))))
 have n2_ := Aside0.mk (blk_below (kb_ BK599.out) hb)
 have n3_ := Aside0.mk (below_step (by repeat (first | (with_reducible first | exact HB.out | apply below_alloc | apply pw_below_drewN | apply below_drew1 | refine below_set ?_ GE599.out) | exact HB.out)) hb)
 clear HO602
 clear BK599
 clear HB
 have HO602 := n0_
 have HO605 := n1_
 have BK599 := n2_
 have HB := n3_
 clear n0_ n1_ n2_ n3_
 (try clear hb)
 (try clear hb2)
 (try clear hk)
 (try clear hi)
 (try clear ho0)
 obtain ⟨Ao9, co9, eo9⟩ := Kd.R_slice HO602.out
 (first | subst eo9 | (injection eo9 with f1_ f2_ f3_; have f4_ := f1_.symm; have f5_ := f3_.symm; clear f1_ f2_ f3_; subst f4_; subst f5_))
 obtain ⟨Ao10, co10, eo10⟩ := Kd.R_slice HO605.out
 (first | subst eo10 | (injection eo10 with f1_ f2_ f3_; have f4_ := f1_.symm; have f5_ := f3_.symm; clear f1_ f2_ f3_; subst f4_; subst f5_))
 refine hK.out _ _ BK599.out (fun hHeld => ?_)
 clear hK K
 refine norm_ (a' := ?_) ?_ ?_
 rotate_left
 · show Act.put _ (some 6) _ = _
   simp only [Act.put, List.setIfInBounds_toArray, List.set_cons_zero, List.set_cons_succ, i64_w, i32_w]
   rfl
 refine one_ (i := 4) (N := some 7) #[true, true, true, true, true, false] rfl rfl (by kernel_rfl) (by decide) (fun K hK => ?_)
 refine goes_ Try.func52 (by kernel_rfl) rfl #[.slice Ao9 t600.length co9, .slice Ao10 t603.length co10] (by rfl) rfl rfl (by (try simp only [List.map_toArray, List.map_cons, List.map_nil]); first | done | rfl | (simp only [List.length_drop, List.length_take]; rfl)) ?_
 with_reducible refine (keys_Join.calls _ _ t600 _ _ t603 t606 _ ?side1 ?side2 ?side3 ?side4 A4.out).mono ?_
 (case side1 => repeat (first | exact (Kd.R_reads' HO602.out).2.2 | (with_reducible refine Kd.C_alloc ?_ _) | (with_reducible refine Kd.C_drewN ?_ _) | (with_reducible refine Kd.C_drew ?_)))
 (case side2 => exact (Kd.R_reads' HO602.out).2.1)
 (case side3 => repeat (first | exact (Kd.R_reads' HO605.out).2.2 | (with_reducible refine Kd.C_alloc ?_ _) | (with_reducible refine Kd.C_drewN ?_ _) | (with_reducible refine Kd.C_drew ?_)))
 (case side4 => exact (Kd.R_reads' HO605.out).2.1)
 rintro e w11 ⟨v607, rfl, ho0, hb⟩
 refine ⟨_, rfl, ?_⟩
 have n0_ := Aside0.mk (Kd.R_elder' (kr_ HO602.out) (Kd.R_base ho0) hb)
 have n1_ := Aside0.mk (Kd.R_elder' (kr_ HO605.out) (Kd.R_base ho0) hb)
 have n2_ := Aside0.mk (Kd.R_lower (Kd.R_new' (Kd.R_new' ho0 (Kd.R_lt (kr_ HO602.out))) (Kd.R_lt (kr_ HO605.out))) (below_size (by repeat (first | (with_reducible first | exact HB.out | apply below_alloc | apply pw_below_drewN | apply below_drew1 | refine below_set ?_ GE599.out) | exact HB.out))))
 have n3_ := Aside0.mk (blk_below (kb_ BK599.out) hb)
 have n4_ := Aside0.mk (below_step (by repeat (first | (with_reducible first | exact HB.out | apply below_alloc | apply pw_below_drewN | apply below_drew1 | refine below_set ?_ GE599.out) | exact HB.out)) hb)
 clear HO602
 clear HO605
 clear BK599
 clear HB
 have HO602 := n0_
 have HO605 := n1_
 have HO608 := n2_
 have BK599 := n3_
 have HB := n4_
 clear n0_ n1_ n2_ n3_ n4_
 (try clear hb)
 (try clear hb2)
 (try clear hk)
 (try clear hi)
 (try clear ho0)
 refine hK.out _ _ BK599.out (fun hHeld => ?_)
 clear hK K
 refine norm_ (a' := ?_) ?_ ?_
 rotate_left
 · show Act.put _ (some 7) _ = _
   simp only [Act.put, List.setIfInBounds_toArray, List.set_cons_zero, List.set_cons_succ, i64_w, i32_w]
   rfl
 refine pure_ (i := 5) (N := some 2) (v := ?_) (a' := ?_) #[true, true, true, true, true, true] rfl rfl (by kernel_rfl) (fun _ _ _ h => h) (Or.inl ⟨by rfl, ?_⟩) ?_ ?_
 rotate_left
 · intro w'
   go_simp
   with_reducible rfl
 rotate_left
 · simp only [Act.put, List.setIfInBounds_toArray, List.set_cons_zero, List.set_cons_succ, i64_w, i32_w]
   rfl
 refine done_ (by kernel_rfl) ?_
 try go_wp2
 go_ret
 exact ⟨_, by first | rfl | (simp [errW_none, errW_some] <;> rfl) | (simp [*, errW_none, errW_some] <;> rfl), by (with_reducible repeat (first | apply Kd.R_alloc | apply Kd.R_drewN | apply Kd.R_drew)); exact Kd.R_mono HO608.out (fun _ hk => trivial), by repeat (first | (with_reducible first | exact HB.out | apply below_alloc | apply pw_below_drewN | apply below_drew1 | refine below_set ?_ GE599.out) | exact HB.out)⟩
end Go.Proofs.Ytklbmdakoeoplaa.X
end
section
namespace Go.Proofs.Ytklbmdakoeoplaa.Strs
open Go.RowKit Go.Proofs.YtklbmdakoeoplaaW.PrintWords Go.Proofs.YtklbmdakoeoplaaW.PrintLast Go.Proofs.YtklbmdakoeoplaaW.PrintMore Go.Proofs.Ytklbmdakoeoplaa.X
set_option linter.unusedSimpArgs false
set_option linter.unusedVariables false
theorem addr_plain {w : World} {ad : Addr} {v : Value} (h : w.cell? (ad.add 0) = some v) : ∃ b o, ad = ⟨b, o, none⟩ := by
  obtain ⟨b, o, s⟩ := ad
  cases s with
  | none => exact ⟨b, o, rfl⟩
  | some x =>
    exfalso
    unfold Addr.add at h
    rw [if_pos rfl] at h
    simp only [World.cell?] at h
    split at h <;> simp at h
theorem str_cells {w : World} {A : Option Addr} {l : List ByteArray} (h : Kd.C Kd.string w A l.length l) (hl : 0 < l.length) : ∃ b o, A = some ⟨b, o, none⟩ ∧ ∀ j, j < l.length → w.cell? ⟨b, o + j, none⟩ = some (.string (l.getD j ByteArray.empty)) := by
  obtain ⟨ad, rfl, hc⟩ := h.2.2 hl
  have hcell : ∀ j, j < l.length → w.cell? (ad.add j) = some (.string (l.getD j ByteArray.empty)) := by
    intro j hj
    obtain ⟨c, hcl, hk, hcc⟩ := hc j _ (List.getElem?_eq_getElem hj)
    have e : c = [.string (l.getD j ByteArray.empty)] := by
      have : c = [Value.string l[j]] := hk
      rw [this]; simp [List.getD_eq_getElem?_getD, hj]
    subst e
    have h3 := hcc 0 _ rfl
    rwa [show j * Kd.string.sz + 0 = j by simp [Kd.string, Kd.scalar]] at h3
  obtain ⟨b, o, rfl⟩ := addr_plain (hcell 0 hl)
  refine ⟨b, o, rfl, fun j hj => ?_⟩
  have h1 := hcell j hj
  have ha : (⟨b, o, none⟩ : Addr).add j = ⟨b, o + j, none⟩ := by unfold Addr.add; split <;> simp_all
  rwa [ha] at h1
theorem contains_inB (l : List ByteArray) (x : ByteArray) : Lib.containsS l x = inB l x := by
  rw [Bool.eq_iff_iff, Lib.containsS_iff, inB_iff]
set_option maxHeartbeats 1000000 in
theorem contains_any (A : Option Addr) (c : Nat) (l : List ByteArray) (x : ByteArray) (w : World) (hr : Kd.C Kd.string w A l.length l) :
    Calls Try.prog 51 #[.slice A l.length c, .string x] w fun e w' => e = .returned (.bool (inB l x)) ∧ w' = w := by
  by_cases hl : 0 < l.length
  · obtain ⟨b, o, rfl, hc⟩ := str_cells hr hl
    have h := Try.slices_Contains_string b o l.length c l x w (Nat.le_refl _) hr.2.1 hc
    rw [List.take_length, contains_inB] at h
    exact h
  · have h0 : l = [] := List.eq_nil_of_length_eq_zero (by omega)
    subst h0
    exact Try.slices_Contains_string_empty A c x w
set_option maxHeartbeats 1000000 in
theorem meet1_any (k : ByteArray) (g : Nat) (A : Option Addr) (c : Nat) (l : List ByteArray) (w : World) (hg : w.cell? ⟨g, 0, none⟩ = some (.slice A l.length c)) (hr : Kd.C Kd.string w A l.length l) (x : Bool) (hx : x = inB l k) :
    Calls Try.prog 50 #[.string k, .pointer (some ⟨g, 0, none⟩)] w fun e w' => e = .returned (.bool x) ∧ w = w' := by
  have HX := Lib.hid hx
  have HR := Lib.hid hr
  clear hx hr
  go_enter Try.func50, Try.ntmps50
  go_wp2_with (go_at_call 51; refine (contains_any _ _ _ _ _ HR.out).mono ?_; rintro e w' ⟨rfl, rfl⟩)
  go_ret
  exact ⟨by rw [HX.out]; rfl, rfl⟩
/-- Does one of the first list's stand in the second? -/
def meetB (l m : List ByteArray) : Bool := l.any (fun x => inB m x)
def AtOrNone (b : Bool) (w : World) (e : Ending) (w' : World) : Prop := ∃ n : Int, e = .returned (.int .i64 n) ∧ decide (0 ≤ n) = b ∧ -1 ≤ n ∧ n ≤ 9223372036854775807 ∧ w = w'
set_option maxRecDepth 100000 in
set_option maxHeartbeats 2000000 in
theorem indexFunc_any (A0 : Option Addr) (c0 : Nat) (l0 : List ByteArray) (g : Nat) (A : Option Addr) (c : Nat) (l : List ByteArray) (w : World) (hr0 : Kd.C Kd.string w A0 l0.length l0) (hg : w.cell? ⟨g, 0, none⟩ = some (.slice A l.length c)) (hr : Kd.C Kd.string w A l.length l) :
    Calls Try.prog 56 #[.slice A0 l0.length c0, .func (.func 50) #[] #[.pointer (some ⟨g, 0, none⟩)]] w (AtOrNone (meetB l0 l) w) := by
  have HR := Lib.hid hr
  have HR0 := Lib.hid hr0
  have hm := hr0.2.1
  have HG := Lib.hid hg
  clear hr hr0 hg
  go_enter Try.func56, Try.ntmps56
  go_wp2
  go_loopw [8] (fun i wr => ∃ j : Nat, j ≤ l0.length ∧ i = .int .i64 j ∧ Hid (meetB (l0.take j) l = false) ∧ Hid (w = wr)) (fun i _ => l0.length - (intOf i).toNat)
  case atStart => exact ⟨0, by omega, rfl, Lib.hid rfl, Lib.hid rfl⟩
  case round =>
    obtain ⟨j, hj, rfl, hS, hw⟩ := hrel
    obtain rfl := hw.out
    clear hw
    by_cases hlt : j < l0.length
    · obtain ⟨b, o, rfl, hc⟩ := str_cells HR0.out (by omega)
      have hcell := hc j hlt
      have hel : l0.getD j ByteArray.empty = l0[j] := by simp [List.getD_eq_getElem?_getD, hlt]
      have htake : l0.take (j + 1) = l0.take j ++ [l0.getD j ByteArray.empty] := by rw [hel, List.take_succ_eq_append_getElem hlt]
      have hmem : l0.getD j ByteArray.empty ∈ l0 := by rw [hel]; exact List.getElem_mem hlt
      have HT := Lib.hid htake
      have HM := Lib.hid hmem
      clear hc hel htake hmem
      generalize l0.getD j ByteArray.empty = x at hcell HT HM
      cases hb : inB l x with
      | true =>
        have HB := Lib.hid hb
        clear hb
        go_wp2_with (go_at_call 50; refine (meet1_any _ g A c l _ HG.out HR.out true (by rw [HB.out])).mono ?_; rintro e w' ⟨rfl, rfl⟩)
        go_ret
        exact ⟨j, rfl, by unfold meetB; rw [List.any_eq_true.2 ⟨x, HM.out, HB.out⟩]; simp, by omega, by omega, rfl⟩
      | false =>
        have HB := Lib.hid hb
        clear hb
        go_wp2_with (go_at_call 50; refine (meet1_any _ g A c l _ HG.out HR.out false (by rw [HB.out])).mono ?_; rintro e w' ⟨rfl, rfl⟩)
        go_roundw
        case rel => exact ⟨j + 1, by omega, by go_num, Lib.hid (by have h := hS.out; unfold meetB at h ⊢; rw [HT.out, List.any_append, h, List.any_cons, HB.out]; rfl), by first | exact Lib.hid rfl | exact Lib.hid trivial⟩
        case measure => simp [intOf]; omega
    · go_wp2
      go_ret
      obtain rfl : j = l0.length := by omega
      exact ⟨-1, rfl, by have h := hS.out; rw [List.take_length] at h; rw [h]; simp, by omega, by omega, rfl⟩
set_option maxHeartbeats 1000000 in
theorem containsFunc_any (A0 : Option Addr) (c0 : Nat) (l0 : List ByteArray) (g : Nat) (A : Option Addr) (c : Nat) (l : List ByteArray) (w : World) (hr0 : Kd.C Kd.string w A0 l0.length l0) (hg : w.cell? ⟨g, 0, none⟩ = some (.slice A l.length c)) (hr : Kd.C Kd.string w A l.length l) :
    Calls Try.prog 49 #[.slice A0 l0.length c0, .func (.func 50) #[] #[.pointer (some ⟨g, 0, none⟩)]] w fun e w' => e = .returned (.bool (meetB l0 l)) ∧ w = w' := by
  have HR := Lib.hid hr
  have HR0 := Lib.hid hr0
  have HG := Lib.hid hg
  clear hr hr0 hg
  go_enter Try.func49, Try.ntmps49
  go_wp2_with (go_at_call 56; refine (indexFunc_any A0 c0 l0 g A c l _ HR0.out HG.out HR.out).mono ?_; rintro e w' ⟨n, rfl, hn, hn1, hn2, rfl⟩; have HN := Lib.hid hn; clear hn)
  go_ret
  exact ⟨by rw [← HN.out]; rfl, rfl⟩
end Go.Proofs.Ytklbmdakoeoplaa.Strs
namespace Go.Proofs.Ytklbmdakoeoplaa.X
open Go.RowKit Go.Proofs.Ytklbmdakoeoplaa.Strs Go.Proofs.YtklbmdakoeoplaaW.PrintWords Go.Proofs.YtklbmdakoeoplaaW.PrintLast Go.Proofs.YtklbmdakoeoplaaW.PrintMore
set_option linter.unusedVariables false
def keys_Meet.f (l0 : List ByteArray) (l1 : List ByteArray) : Option Bool := some (meetB l0 l1)
set_option maxHeartbeats 1000000 in
theorem keys_Meet.calls (A0 : Option Addr) (c0 : Nat) (l0 : List ByteArray) (A1 : Option Addr) (c1 : Nat) (l1 : List ByteArray) (r : Bool) (w : World) (hr0 : Kd.C Kd.string w A0 l0.length l0) (hc0 : l0.length ≤ c0) (hr1 : Kd.C Kd.string w A1 l1.length l1) (hc1 : l1.length ≤ c1) (h : keys_Meet.f l0 l1 = some r) :
    Calls Try.prog 44 #[.slice A0 l0.length c0, .slice A1 l1.length c1] w fun e w' => e = .returned (.bool r) ∧ Below w.heap.size w w' := by
  have HX := Lib.hid (Option.some.inj h)
  have hb0 := below_alloc (Below.refl w.heap.size w) (.cells #[.slice A1 l1.length c1] 68)
  have HR0 := Lib.hid (Kd.C_below hr0 hb0)
  have HR1 := Lib.hid (Kd.C_below hr1 hb0)
  clear h hr0 hr1 hc0 hc1
  go_enter Try.func44, Try.ntmps44
  go_wp2_with (go_at_call 49; refine (containsFunc_any A0 c0 l0 w.heap.size A1 c1 l1 _ HR0.out ?_ HR1.out).mono ?_; (exact World.cell?_alloc_at _ _ _ _ rfl); rintro e w' ⟨rfl, rfl⟩)
  go_ret
  exact ⟨by rw [HX.out]; rfl, hb0⟩
end Go.Proofs.Ytklbmdakoeoplaa.X
end
section
namespace Go.Proofs.Ytklbmdakoeoplaa.X
open Go.RowKit Go.Proofs.YtklbmdakoeoplaaW.PrintWords Go.Proofs.YtklbmdakoeoplaaW.PrintLast Go.Proofs.YtklbmdakoeoplaaW.PrintMore
attribute [local go_sem] max2_int min2_int max_two min_two max_three min_three max_four min_four   -- for this text's walks alone
set_option linter.unusedVariables false
set_option linter.unusedSimpArgs false
attribute [local go_sem high] eqA26
/-! ### command_Interfere: function 36 -/
def command_Interfere.j0 : Nat → Bool → Int → Int → Int → Int → Int → Int → List (S61) → List (S46) → Bool → Int → Int → Int → Int → Int → Int → List (S61) → List (S46) → Bool → Option (Bool)
 | 0, _, _, _, _, _, _, _, _, _, _, _, _, _, _, _, _, _, _, _ => none
 | k + 1, x12, x610000, x610001, x610002, x610003, x610004, x610005, x610006, x610007, x610008, x611000, x611001, x611002, x611003, x611004, x611005, x611006, x611007, x611008 => if x12 = true then (some false) else (if (x610001 == x611001 && (x610002 == x611002)) = true then (some true) else ((command_Keys.f k x610000 x610001 x610002 x610003 x610004 x610005 x610006 x610007 x610008).bind fun t611 => ((command_Keys.f k x611000 x611001 x611002 x611003 x611004 x611005 x611006 x611007 x611008).bind fun t614 => ((keys_Meet.f t611 t614).bind fun t617 => (some t617)))))
def command_Interfere.f (k : Nat) (a0_0 : Int) (a0_1 : Int) (a0_2 : Int) (a0_3 : Int) (a0_4 : Int) (a0_5 : Int) (l0_6 : List (S61)) (l0_7 : List (S46)) (a0_8 : Bool) (a1_0 : Int) (a1_1 : Int) (a1_2 : Int) (a1_3 : Int) (a1_4 : Int) (a1_5 : Int) (l1_6 : List (S61)) (l1_7 : List (S46)) (a1_8 : Bool) : Option (Bool) := if a0_0 = 0 then (command_Interfere.j0 k true a0_0 a0_1 a0_2 a0_3 a0_4 a0_5 l0_6 l0_7 a0_8 a1_0 a1_1 a1_2 a1_3 a1_4 a1_5 l1_6 l1_7 a1_8) else (command_Interfere.j0 k (a1_0 == 0) a0_0 a0_1 a0_2 a0_3 a0_4 a0_5 l0_6 l0_7 a0_8 a1_0 a1_1 a1_2 a1_3 a1_4 a1_5 l1_6 l1_7 a1_8)
def command_Interfere.T3 : Bool × List (List Nat × List Nat) := (true, [([], []), ([0], [0]), ([], []), ([2], [2]), ([1, 3], [1, 3]), ([4], [4]), ([5], [5]), ([6, 5, 5], [5, 6]), ([5], [5]), ([8, 7, 5], [5, 8]), ([7, 9, 9, 5], [5, 7, 9]), ([5, 10], [5, 10]), ([11, 10, 0, 1, 2, 3, 4, 5, 6, 7, 8, 9, 10, 11], [11])])
def command_Interfere.B3 : List Nat := [0, 1, 0, 4, 15, 31, 63, 127, 63, 511, 1023, 2047, 4095]
theorem command_Interfere.tab3 : rtab .any (opsOf Try.f36 3) = command_Interfere.T3 := by kernel_rfl
theorem command_Interfere.bits3 : waitsOk command_Interfere.T3.2 command_Interfere.B3 = true := by kernel_rfl
set_option maxHeartbeats 8000000 in
set_option maxRecDepth 100000 in
theorem command_Interfere.calls (k : Nat) (a0_0 : Int) (a0_1 : Int) (a0_2 : Int) (a0_3 : Int) (a0_4 : Int) (a0_5 : Int) (A0_6 : Option Addr) (c0_6 : Nat) (l0_6 : List (S61)) (A0_7 : Option Addr) (c0_7 : Nat) (l0_7 : List (S46)) (a0_8 : Bool) (a1_0 : Int) (a1_1 : Int) (a1_2 : Int) (a1_3 : Int) (a1_4 : Int) (a1_5 : Int) (A1_6 : Option Addr) (c1_6 : Nat) (l1_6 : List (S61)) (A1_7 : Option Addr) (c1_7 : Nat) (l1_7 : List (S46)) (a1_8 : Bool) (r : Bool) (w : World) (hr0_6 : Kd.C k61 w A0_6 l0_6.length l0_6) (hc0_6 : l0_6.length ≤ c0_6) (hr0_7 : Kd.C k46 w A0_7 l0_7.length l0_7) (hc0_7 : l0_7.length ≤ c0_7) (hr1_6 : Kd.C k61 w A1_6 l1_6.length l1_6) (hc1_6 : l1_6.length ≤ c1_6) (hr1_7 : Kd.C k46 w A1_7 l1_7.length l1_7) (hc1_7 : l1_7.length ≤ c1_7) (h : command_Interfere.f k a0_0 a0_1 a0_2 a0_3 a0_4 a0_5 l0_6 l0_7 a0_8 a1_0 a1_1 a1_2 a1_3 a1_4 a1_5 l1_6 l1_7 a1_8 = some r) :
 Calls Try.prog 36 #[.agg #[.int .i64 a0_0, .int .i64 a0_1, .int .i64 a0_2, .int .i64 a0_3, .int .i64 a0_4, .int .i64 a0_5, .slice A0_6 l0_6.length c0_6, .slice A0_7 l0_7.length c0_7, .bool a0_8], .agg #[.int .i64 a1_0, .int .i64 a1_1, .int .i64 a1_2, .int .i64 a1_3, .int .i64 a1_4, .int .i64 a1_5, .slice A1_6 l1_6.length c1_6, .slice A1_7 l1_7.length c1_7, .bool a1_8]] w fun e w' => e = .returned (.bool r) ∧ Below w.heap.size w w' := by
 have hu32 := Try.underlying32
 have hu26 := Try.underlying26
 have HR0_6 := Aside0.mk hr0_6
 have HC0_6 := Aside0.mk hc0_6
 clear hr0_6 hc0_6
 have HR0_7 := Aside0.mk hr0_7
 have HC0_7 := Aside0.mk hc0_7
 clear hr0_7 hc0_7
 have HR1_6 := Aside0.mk hr1_6
 have HC1_6 := Aside0.mk hc1_6
 clear hr1_6 hc1_6
 have HR1_7 := Aside0.mk hr1_7
 have HC1_7 := Aside0.mk hc1_7
 clear hr1_7 hc1_7
 have HB := Aside0.mk (Below.refl w.heap.size w)
 have H : (if a0_0 = 0 then (command_Interfere.j0 k true a0_0 a0_1 a0_2 a0_3 a0_4 a0_5 l0_6 l0_7 a0_8 a1_0 a1_1 a1_2 a1_3 a1_4 a1_5 l1_6 l1_7 a1_8) else (command_Interfere.j0 k (a1_0 == 0) a0_0 a0_1 a0_2 a0_3 a0_4 a0_5 l0_6 l0_7 a0_8 a1_0 a1_1 a1_2 a1_3 a1_4 a1_5 l1_6 l1_7 a1_8)) = some r := h
 clear h
 have HC3 := Aside0.mk H
 clear H
 go_enter Try.func36, Try.ntmps36
 go_upto_region 1 with (first | ((with_reducible refine gate_dst (N := 2) rfl ?_); refine box_event ?hg (N := 2) ?hd (cs := #[.int .i64 a0_0, .int .i64 a0_1, .int .i64 a0_2, .int .i64 a0_3, .int .i64 a0_4, .int .i64 a0_5, .slice A0_6 l0_6.length c0_6, .slice A0_7 l0_7.length c0_7, .bool a0_8]) (t := 32) ?hr ?_; (case hd => rfl); (case hg => rfl); (case hr => first | (go_simp; done) | (go_simp; rfl)); intro gb609 hg w4 hbox hb; have n0_ := Aside0.mk (below_step lb_ hb); have n1_ := Aside0.mk (hbox); have n2_ := Aside0.mk ((by rw [hg]; exact (below_size lb_) : w.heap.size ≤ gb609)); have n3_ := Aside0.mk ((by rw [hg]; exact (below_size lb_) : w.heap.size ≤ gb609)); clear HB; have HB := n0_; have BK609 := n1_; have GW609 := n2_; have GE609 := n3_; clear n0_ n1_ n2_ n3_; clear hb hbox hg) | ((with_reducible refine gate_dst (N := 3) rfl ?_); refine box_event ?hg (N := 3) ?hd (cs := #[.int .i64 a1_0, .int .i64 a1_1, .int .i64 a1_2, .int .i64 a1_3, .int .i64 a1_4, .int .i64 a1_5, .slice A1_6 l1_6.length c1_6, .slice A1_7 l1_7.length c1_7, .bool a1_8]) (t := 32) ?hr ?_; (case hd => rfl); (case hg => rfl); (case hr => first | (go_simp; done) | (go_simp; rfl)); intro gb610 hg w5 hbox hb; have n0_ := Aside0.mk (blk_below (kb_ BK609.out) hb); have n1_ := Aside0.mk (below_step (by repeat (first | (with_reducible first | exact HB.out | apply below_alloc | apply pw_below_drewN | apply below_drew1 | refine below_set ?_ GE609.out) | exact HB.out)) hb); have n2_ := Aside0.mk (hbox); have n3_ := Aside0.mk ((by rw [hg]; exact (below_size (by repeat (first | (with_reducible first | exact HB.out | apply below_alloc | apply pw_below_drewN | apply below_drew1 | refine below_set ?_ GE609.out) | exact HB.out))) : w.heap.size ≤ gb610)); have n4_ := Aside0.mk ((by rw [hg]; exact (below_size (by repeat (first | (with_reducible first | exact HB.out | apply below_alloc | apply pw_below_drewN | apply below_drew1 | refine below_set ?_ GE609.out) | exact HB.out))) : w.heap.size ≤ gb610)); have n5_ := Aside0.mk ((by rw [hg]; exact Nat.ne_of_lt (blk_lt (kb_ BK609.out)) : gb609 ≠ gb610)); have n6_ := Aside0.mk ((by rw [hg]; exact Nat.ne_of_gt (blk_lt (kb_ BK609.out)) : gb610 ≠ gb609)); clear BK609; clear HB; have BK609 := n0_; have HB := n1_; have BK610 := n2_; have GW610 := n3_; have GE610 := n4_; have NB609_610 := n5_; have NB610_609 := n6_; clear n0_ n1_ n2_ n3_ n4_ n5_ n6_; clear hb hbox hg))
 (try simp only [Act.put, List.setIfInBounds_toArray, List.set_cons_zero, List.set_cons_succ])
 go_cut [12] (fun v12 wc => ∃ (kq : Nat) (x12_2 : Bool), v12 = .bool x12_2 ∧ Aside0 (command_Interfere.j0 kq x12_2 a0_0 a0_1 a0_2 a0_3 a0_4 a0_5 l0_6 l0_7 a0_8 a1_0 a1_1 a1_2 a1_3 a1_4 a1_5 l1_6 l1_7 a1_8 = some r) ∧ Aside0 (kq ≤ k) ∧ Aside0 (wc.heap[gb609]? = some (.cells #[.int .i64 a0_0, .int .i64 a0_1, .int .i64 a0_2, .int .i64 a0_3, .int .i64 a0_4, .int .i64 a0_5, (.slice A0_6 l0_6.length c0_6), (.slice A0_7 l0_7.length c0_7), .bool a0_8] 32 (0, 0))) ∧ Aside0 (wc.heap[gb610]? = some (.cells #[.int .i64 a1_0, .int .i64 a1_1, .int .i64 a1_2, .int .i64 a1_3, .int .i64 a1_4, .int .i64 a1_5, (.slice A1_6 l1_6.length c1_6), (.slice A1_7 l1_7.length c1_7), .bool a1_8] 32 (0, 0))) ∧ Aside0 (Below w.heap.size w wc))
 case first =>
  have H := HC3.out
  clear HC3
  by_cases c6 : a0_0 = 0
  · rw [if_pos c6] at H
    have c6b0 : (a0_0 == 0) = true := beq_iff_eq.mpr c6
    have c6b1 : (a0_0 != 0) = false := bne_eq_false_iff_eq.mpr c6
    clear c6
    (first | rw [c6b0] | (simp only [i64_w, i32_w]; rw [c6b0]) | skip)
    have H' := Aside0.mk H
    clear H
    have hnb7 := NB609_610.out
    have hnc7 := NB610_609.out
    refine blk9_ BK609.out fun hcz8_0 hcz8_1 hcz8_2 hcz8_3 hcz8_4 hcz8_5 hcz8_6 hcz8_7 hcz8_8 hfz8_0 hfz8_1 hfz8_2 hfz8_3 hfz8_4 hfz8_5 hfz8_6 hfz8_7 hfz8_8 => ?_
    go_wp2
    go_meet
    case rel => exact ⟨_, (true), (by first | rfl | (simp; done) | (simp [*]; done)), H', ⟨by first | omega | exact Nat.le_refl _⟩, ⟨by (with_reducible repeat (first | refine blk_drewN ?_ _ | refine blk_drew ?_ | refine blk_alloc ?_ _)); exact BK609.out⟩, ⟨by (with_reducible repeat (first | refine blk_drewN ?_ _ | refine blk_drew ?_ | refine blk_alloc ?_ _)); exact BK610.out⟩, ⟨by repeat (first | (with_reducible first | exact HB.out | apply below_alloc | apply pw_below_drewN | apply below_drew1 | refine below_set ?_ GE609.out | refine below_set ?_ GE610.out) | exact HB.out)⟩⟩
  · rw [if_neg c6] at H
    have c6b0 : (a0_0 == 0) = false := beq_eq_false_iff_ne.mpr c6
    have c6b1 : (a0_0 != 0) = true := bne_iff_ne.mpr c6
    (first | rw [c6b0] | (simp only [i64_w, i32_w]; rw [c6b0]) | skip)
    have H' := Aside0.mk H
    clear H
    have hnb9 := NB609_610.out
    have hnc9 := NB610_609.out
    refine blk9_ BK609.out fun hcz10_0 hcz10_1 hcz10_2 hcz10_3 hcz10_4 hcz10_5 hcz10_6 hcz10_7 hcz10_8 hfz10_0 hfz10_1 hfz10_2 hfz10_3 hfz10_4 hfz10_5 hfz10_6 hfz10_7 hfz10_8 => ?_
    refine blk9_ BK610.out fun hcz11_0 hcz11_1 hcz11_2 hcz11_3 hcz11_4 hcz11_5 hcz11_6 hcz11_7 hcz11_8 hfz11_0 hfz11_1 hfz11_2 hfz11_3 hfz11_4 hfz11_5 hfz11_6 hfz11_7 hfz11_8 => ?_
    go_wp2
    go_meet
    case rel => exact ⟨_, ((a1_0 == 0)), (by first | rfl | (simp; done) | (simp [*]; done)), H', ⟨by first | omega | exact Nat.le_refl _⟩, ⟨by (with_reducible repeat (first | refine blk_drewN ?_ _ | refine blk_drew ?_ | refine blk_alloc ?_ _)); exact BK609.out⟩, ⟨by (with_reducible repeat (first | refine blk_drewN ?_ _ | refine blk_drew ?_ | refine blk_alloc ?_ _)); exact BK610.out⟩, ⟨by repeat (first | (with_reducible first | exact HB.out | apply below_alloc | apply pw_below_drewN | apply below_drew1 | refine below_set ?_ GE609.out | refine below_set ?_ GE610.out) | exact HB.out)⟩⟩
 case rest =>
  clear HC3
  try clear c1
  try clear p2
  try clear c3
  try clear c6
  try clear c6b0
  try clear c6b1
  try clear c7
  try clear c9
  try clear hcz10_0 hcz10_1 hcz10_2 hcz10_3 hcz10_4 hcz10_5 hcz10_6 hcz10_7 hcz10_8
  try clear hcz11_0 hcz11_1 hcz11_2 hcz11_3 hcz11_4 hcz11_5 hcz11_6 hcz11_7 hcz11_8
  try clear hcz8_0 hcz8_1 hcz8_2 hcz8_3 hcz8_4 hcz8_5 hcz8_6 hcz8_7 hcz8_8
  try clear hfz10_0 hfz10_1 hfz10_2 hfz10_3 hfz10_4 hfz10_5 hfz10_6 hfz10_7 hfz10_8
  try clear hfz11_0 hfz11_1 hfz11_2 hfz11_3 hfz11_4 hfz11_5 hfz11_6 hfz11_7 hfz11_8
  try clear hfz8_0 hfz8_1 hfz8_2 hfz8_3 hfz8_4 hfz8_5 hfz8_6 hfz8_7 hfz8_8
  obtain ⟨kq, x12_2, rfl, HA, HJ2, BK609, BK610, HB⟩ := hcut
  cases kq with
  | zero => exact absurd HA.out (by simp [command_Interfere.j0])
  | succ kj2 =>
   have H := HA.out
   clear HA
   simp only [command_Interfere.j0] at H
   by_cases c12 : x12_2 = true
   · subst c12
     rw [if_pos rfl] at H
     obtain rfl := Option.some.inj H
     go_wp2
     go_ret
     exact ⟨by first | rfl | (simp [errW_none, errW_some] <;> rfl) | (simp [*, errW_none, errW_some] <;> rfl), by repeat (first | (with_reducible first | exact HB.out | apply below_alloc | apply pw_below_drewN | apply below_drew1 | refine below_set ?_ GE609.out | refine below_set ?_ GE610.out) | exact HB.out)⟩
   · replace c12 := Bool.eq_false_iff.mpr c12
     subst c12
     rw [if_neg (show ¬ (false = true) by decide)] at H
     by_cases c13 : (a0_1 == a1_1 && (a0_2 == a1_2)) = true
     · rw [if_pos c13] at H
       have c13b0 : (a0_1 == a1_1 && (a0_2 == a1_2)) = true := c13
       (try (have c13b1 : decide (a0_1 = a1_1 && (a0_2 == a1_2)) = true := by simpa using c13))
       (try (have c13b2 : (a0_1 == a1_1 && (a0_2 == a1_2)) = true := by simpa using c13))
       clear c13
       obtain rfl := Option.some.inj H
       try go_wp2
       have n0_ := Aside0.mk (blk_drew BK609.out)
       have n1_ := Aside0.mk (blk_drew BK610.out)
       have n2_ := Aside0.mk (below_drew1 HB.out)
       clear BK609
       clear BK610
       clear HB
       have BK609 := n0_
       have BK610 := n1_
       have HB := n2_
       clear n0_ n1_ n2_
       refine start_ (n := 13) (S := fun w' => w'.heap[gb609]? = some (.cells #[.int .i64 a0_0, .int .i64 a0_1, .int .i64 a0_2, .int .i64 a0_3, .int .i64 a0_4, .int .i64 a0_5, .slice A0_6 l0_6.length c0_6, .slice A0_7 l0_7.length c0_7, .bool a0_8] 32 (0, 0)) ∧ w'.heap[gb610]? = some (.cells #[.int .i64 a1_0, .int .i64 a1_1, .int .i64 a1_2, .int .i64 a1_3, .int .i64 a1_4, .int .i64 a1_5, .slice A1_6 l1_6.length c1_6, .slice A1_7 l1_7.length c1_7, .bool a1_8] 32 (0, 0))) (ds := []) #[false, false, false, false, false, false, false, false, false, false, false, false, false] (by kernel_rfl) rfl rfl ⟨BK609.out, BK610.out⟩ (fun hHeld => ?_); refine with_tabW command_Interfere.tab3 command_Interfere.bits3 (fun HT_ HW_ => ?_)
       generalize wc.drew = w14 at BK609 BK610 HB hHeld ⊢
       refine pure_ (i := 0) (N := some 13) (v := ?_) (a' := ?_) #[true, false, false, false, false, false, false, false, false, false, false, false, false] rfl rfl (any_of HT_.out (by kernel_rfl)) (fun _ _ _ h => h) (Or.inl ⟨by rfl, ?_⟩) ?_ ?_
       rotate_left
       · intro w'
         go_simp
         with_reducible rfl
       rotate_left
       · simp only [Act.put, List.setIfInBounds_toArray, List.set_cons_zero, List.set_cons_succ, i64_w, i32_w]
         rfl
       refine pure_ (i := 2) (N := some 15) (v := ?_) (a' := ?_) #[true, false, true, false, false, false, false, false, false, false, false, false, false] rfl rfl (any_of HT_.out (by kernel_rfl)) (fun _ _ _ h => h) (Or.inl ⟨by rfl, ?_⟩) ?_ ?_
       rotate_left
       · intro w'
         go_simp
         with_reducible rfl
       rotate_left
       · simp only [Act.put, List.setIfInBounds_toArray, List.set_cons_zero, List.set_cons_succ, i64_w, i32_w]
         rfl
       refine take_ (i := 1) (N := some 14) (v := ?_) (a' := ?_) #[true, true, true, false, false, false, false, false, false, false, false, false, false] rfl rfl (take_ofW HT_.out HW_.out (by kernel_rfl)) (fun _ _ _ h => h) (Or.inl ⟨by rfl, ?_⟩) hHeld ?_ ?_
       rotate_left
       · rintro w' ⟨s0, s9⟩
         first | (refine blk_yield2 (T := 32) s0 ?_ ⟨_, Try.underlying32, rfl⟩ ?_; exact ⟨rfl, rfl⟩; kernel_rfl) | (refine blk_yield2 (T := 32) s9 ?_ ⟨_, Try.underlying32, rfl⟩ ?_; exact ⟨rfl, rfl⟩; kernel_rfl) | (refine blk9_ s0 fun _ _ _ _ _ _ _ _ _ _ _ _ _ _ _ _ _ _ => ?_; refine blk9_ s9 fun _ _ _ _ _ _ _ _ _ _ _ _ _ _ _ _ _ _ => ?_; go_simp; with_reducible rfl)
       rotate_left
       · simp only [Act.put, List.setIfInBounds_toArray, List.set_cons_zero, List.set_cons_succ, i64_w, i32_w]
         rfl
       refine take_ (i := 3) (N := some 16) (v := ?_) (a' := ?_) #[true, true, true, true, false, false, false, false, false, false, false, false, false] rfl rfl (take_ofW HT_.out HW_.out (by kernel_rfl)) (fun _ _ _ h => h) (Or.inl ⟨by rfl, ?_⟩) hHeld ?_ ?_
       rotate_left
       · rintro w' ⟨s0, s9⟩
         first | (refine blk_yield2 (T := 32) s0 ?_ ⟨_, Try.underlying32, rfl⟩ ?_; exact ⟨rfl, rfl⟩; kernel_rfl) | (refine blk_yield2 (T := 32) s9 ?_ ⟨_, Try.underlying32, rfl⟩ ?_; exact ⟨rfl, rfl⟩; kernel_rfl) | (refine blk9_ s0 fun _ _ _ _ _ _ _ _ _ _ _ _ _ _ _ _ _ _ => ?_; refine blk9_ s9 fun _ _ _ _ _ _ _ _ _ _ _ _ _ _ _ _ _ _ => ?_; go_simp; with_reducible rfl)
       rotate_left
       · simp only [Act.put, List.setIfInBounds_toArray, List.set_cons_zero, List.set_cons_succ, i64_w, i32_w]
         rfl
       refine pure_ (i := 4) (N := some 17) (v := ?_) (a' := ?_) #[true, true, true, true, true, false, false, false, false, false, false, false, false] rfl rfl (any_of HT_.out (by kernel_rfl)) (fun _ _ _ h => h) (Or.inl ⟨by rfl, ?_⟩) ?_ ?_
       rotate_left
       · intro w'
         go_simp
         with_reducible rfl
       rotate_left
       · simp only [Act.put, List.setIfInBounds_toArray, List.set_cons_zero, List.set_cons_succ, i64_w, i32_w]
         rfl
       refine pure_ (i := 5) (N := some 18) (v := ?_) (a' := ?_) #[true, true, true, true, true, true, false, false, false, false, false, false, false] rfl rfl (any_of HT_.out (by kernel_rfl)) (fun _ _ _ h => h) (Or.inl ⟨by rfl, ?_⟩) ?_ ?_
       rotate_left
       · intro w'
         go_simp
         with_reducible rfl
       rotate_left
       · simp only [Act.put, List.setIfInBounds_toArray, List.set_cons_zero, List.set_cons_succ, i64_w, i32_w]
         rfl
       refine pure_ (i := 6) (N := some 19) (v := undef) (a' := ?_) #[true, true, true, true, true, true, true, false, false, false, false, false, false] rfl rfl (any_of HT_.out (by kernel_rfl)) (fun _ _ _ h => h) (Or.inr ⟨by rfl, rfl⟩) ?_ ?_
       rotate_left
       · simp only [Act.put, List.setIfInBounds_toArray, List.set_cons_zero, List.set_cons_succ, i64_w, i32_w]
         rfl
       refine pure_ (i := 7) (N := some 20) (v := undef) (a' := ?_) #[true, true, true, true, true, true, true, true, false, false, false, false, false] rfl rfl (any_of HT_.out (by kernel_rfl)) (fun _ _ _ h => h) (Or.inr ⟨by rfl, rfl⟩) ?_ ?_
       rotate_left
       · simp only [Act.put, List.setIfInBounds_toArray, List.set_cons_zero, List.set_cons_succ, i64_w, i32_w]
         rfl
       refine pure_ (i := 8) (N := some 21) (v := undef) (a' := ?_) #[true, true, true, true, true, true, true, true, true, false, false, false, false] rfl rfl (any_of HT_.out (by kernel_rfl)) (fun _ _ _ h => h) (Or.inr ⟨by rfl, rfl⟩) ?_ ?_
       rotate_left
       · simp only [Act.put, List.setIfInBounds_toArray, List.set_cons_zero, List.set_cons_succ, i64_w, i32_w]
         rfl
       refine pure_ (i := 9) (N := some 22) (v := undef) (a' := ?_) #[true, true, true, true, true, true, true, true, true, true, false, false, false] rfl rfl (any_of HT_.out (by kernel_rfl)) (fun _ _ _ h => h) (Or.inr ⟨by rfl, rfl⟩) ?_ ?_
       rotate_left
       · simp only [Act.put, List.setIfInBounds_toArray, List.set_cons_zero, List.set_cons_succ, i64_w, i32_w]
         rfl
       refine pure_ (i := 10) (N := some 23) (v := undef) (a' := ?_) #[true, true, true, true, true, true, true, true, true, true, true, false, false] rfl rfl (any_of HT_.out (by kernel_rfl)) (fun _ _ _ h => h) (Or.inr ⟨by rfl, rfl⟩) ?_ ?_
       rotate_left
       · simp only [Act.put, List.setIfInBounds_toArray, List.set_cons_zero, List.set_cons_succ, i64_w, i32_w]
         rfl
       refine pure_ (i := 11) (N := some 24) (v := ?_) (a' := ?_) #[true, true, true, true, true, true, true, true, true, true, true, true, false] rfl rfl (any_of HT_.out (by kernel_rfl)) (fun _ _ _ h => h) (Or.inl ⟨by rfl, ?_⟩) ?_ ?_
       rotate_left
       · intro w'
         go_simp
         with_reducible rfl
       rotate_left
       · simp only [Act.put, List.setIfInBounds_toArray, List.set_cons_zero, List.set_cons_succ, i64_w, i32_w]
         rfl
       refine pure_ (i := 12) (N := some 4) (v := ?_) (a' := ?_) #[true, true, true, true, true, true, true, true, true, true, true, true, true] rfl rfl (any_of HT_.out (by kernel_rfl)) (fun _ _ _ h => h) (Or.inl ⟨by rfl, ?_⟩) ?_ ?_
       rotate_left
       · intro w'
         go_simp
         with_reducible rfl
       rotate_left
       · simp only [Act.put, List.setIfInBounds_toArray, List.set_cons_zero, List.set_cons_succ, i64_w, i32_w]
         rfl
       refine done_ (done_of HT_.out (by kernel_rfl)) ?_
       try go_wp2
       go_ret
       exact ⟨by first | rfl | (simp [errW_none, errW_some] <;> rfl) | (simp [*, errW_none, errW_some] <;> rfl), by repeat (first | (with_reducible first | exact HB.out | apply below_alloc | apply pw_below_drewN | apply below_drew1 | refine below_set ?_ GE609.out | refine below_set ?_ GE610.out) | exact HB.out)⟩
     · rw [if_neg c13] at H
       have c13b0 : (a0_1 == a1_1 && (a0_2 == a1_2)) = false := by simpa using c13
       (try (have c13b1 : decide (a0_1 = a1_1 && (a0_2 == a1_2)) = false := by simpa using c13))
       (try (have c13b2 : (a0_1 == a1_1 && (a0_2 == a1_2)) = false := by simpa using c13))
       (try (have c13b3 : ¬ (a0_1 = a1_1 && (a0_2 == a1_2)) := by simpa using c13))
       clear c13
       obtain ⟨t611, A15, H⟩ := bs_ H
       obtain ⟨t614, A16, H⟩ := bs_ H
       obtain ⟨t617, A17, H⟩ := bs_ H
       obtain rfl := Option.some.inj H
       try go_wp2
       have n0_ := Aside0.mk (blk_drew BK609.out)
       have n1_ := Aside0.mk (blk_drew BK610.out)
       have n2_ := Aside0.mk (below_drew1 HB.out)
       clear BK609
       clear BK610
       clear HB
       have BK609 := n0_
       have BK610 := n1_
       have HB := n2_
       clear n0_ n1_ n2_
       refine start_ (n := 13) (S := fun w' => w'.heap[gb609]? = some (.cells #[.int .i64 a0_0, .int .i64 a0_1, .int .i64 a0_2, .int .i64 a0_3, .int .i64 a0_4, .int .i64 a0_5, .slice A0_6 l0_6.length c0_6, .slice A0_7 l0_7.length c0_7, .bool a0_8] 32 (0, 0)) ∧ w'.heap[gb610]? = some (.cells #[.int .i64 a1_0, .int .i64 a1_1, .int .i64 a1_2, .int .i64 a1_3, .int .i64 a1_4, .int .i64 a1_5, .slice A1_6 l1_6.length c1_6, .slice A1_7 l1_7.length c1_7, .bool a1_8] 32 (0, 0))) (ds := []) #[false, false, false, false, false, false, false, false, false, false, false, false, false] (by kernel_rfl) rfl rfl ⟨BK609.out, BK610.out⟩ (fun hHeld => ?_); refine with_tabW command_Interfere.tab3 command_Interfere.bits3 (fun HT_ HW_ => ?_)
       generalize wc.drew = w18 at BK609 BK610 HB hHeld ⊢
       refine pure_ (i := 0) (N := some 13) (v := ?_) (a' := ?_) #[true, false, false, false, false, false, false, false, false, false, false, false, false] rfl rfl (any_of HT_.out (by kernel_rfl)) (fun _ _ _ h => h) (Or.inl ⟨by rfl, ?_⟩) ?_ ?_
       rotate_left
       · intro w'
         go_simp
         with_reducible rfl
       rotate_left
       · simp only [Act.put, List.setIfInBounds_toArray, List.set_cons_zero, List.set_cons_succ, i64_w, i32_w]
         rfl
       refine pure_ (i := 2) (N := some 15) (v := ?_) (a' := ?_) #[true, false, true, false, false, false, false, false, false, false, false, false, false] rfl rfl (any_of HT_.out (by kernel_rfl)) (fun _ _ _ h => h) (Or.inl ⟨by rfl, ?_⟩) ?_ ?_
       rotate_left
       · intro w'
         go_simp
         with_reducible rfl
       rotate_left
       · simp only [Act.put, List.setIfInBounds_toArray, List.set_cons_zero, List.set_cons_succ, i64_w, i32_w]
         rfl
       refine take_ (i := 1) (N := some 14) (v := ?_) (a' := ?_) #[true, true, true, false, false, false, false, false, false, false, false, false, false] rfl rfl (take_ofW HT_.out HW_.out (by kernel_rfl)) (fun _ _ _ h => h) (Or.inl ⟨by rfl, ?_⟩) hHeld ?_ ?_
       rotate_left
       · rintro w' ⟨s0, s9⟩
         first | (refine blk_yield2 (T := 32) s0 ?_ ⟨_, Try.underlying32, rfl⟩ ?_; exact ⟨rfl, rfl⟩; kernel_rfl) | (refine blk_yield2 (T := 32) s9 ?_ ⟨_, Try.underlying32, rfl⟩ ?_; exact ⟨rfl, rfl⟩; kernel_rfl) | (refine blk9_ s0 fun _ _ _ _ _ _ _ _ _ _ _ _ _ _ _ _ _ _ => ?_; refine blk9_ s9 fun _ _ _ _ _ _ _ _ _ _ _ _ _ _ _ _ _ _ => ?_; go_simp; with_reducible rfl)
       rotate_left
       · simp only [Act.put, List.setIfInBounds_toArray, List.set_cons_zero, List.set_cons_succ, i64_w, i32_w]
         rfl
       refine take_ (i := 3) (N := some 16) (v := ?_) (a' := ?_) #[true, true, true, true, false, false, false, false, false, false, false, false, false] rfl rfl (take_ofW HT_.out HW_.out (by kernel_rfl)) (fun _ _ _ h => h) (Or.inl ⟨by rfl, ?_⟩) hHeld ?_ ?_
       rotate_left
       · rintro w' ⟨s0, s9⟩
         first | (refine blk_yield2 (T := 32) s0 ?_ ⟨_, Try.underlying32, rfl⟩ ?_; exact ⟨rfl, rfl⟩; kernel_rfl) | (refine blk_yield2 (T := 32) s9 ?_ ⟨_, Try.underlying32, rfl⟩ ?_; exact ⟨rfl, rfl⟩; kernel_rfl) | (refine blk9_ s0 fun _ _ _ _ _ _ _ _ _ _ _ _ _ _ _ _ _ _ => ?_; refine blk9_ s9 fun _ _ _ _ _ _ _ _ _ _ _ _ _ _ _ _ _ _ => ?_; go_simp; with_reducible rfl)
       rotate_left
       · simp only [Act.put, List.setIfInBounds_toArray, List.set_cons_zero, List.set_cons_succ, i64_w, i32_w]
         rfl
       refine pure_ (i := 4) (N := some 17) (v := ?_) (a' := ?_) #[true, true, true, true, true, false, false, false, false, false, false, false, false] rfl rfl (any_of HT_.out (by kernel_rfl)) (fun _ _ _ h => h) (Or.inl ⟨by rfl, ?_⟩) ?_ ?_
       rotate_left
       · intro w'
         go_simp
         with_reducible rfl
       rotate_left
       · simp only [Act.put, List.setIfInBounds_toArray, List.set_cons_zero, List.set_cons_succ, i64_w, i32_w]
         rfl
       refine pure_ (i := 5) (N := some 18) (v := ?_) (a' := ?_) #[true, true, true, true, true, true, false, false, false, false, false, false, false] rfl rfl (any_of HT_.out (by kernel_rfl)) (fun _ _ _ h => h) (Or.inl ⟨by rfl, ?_⟩) ?_ ?_
       rotate_left
       · intro w'
         go_simp
         with_reducible rfl
       rotate_left
       · simp only [Act.put, List.setIfInBounds_toArray, List.set_cons_zero, List.set_cons_succ, i64_w, i32_w]
         rfl
       refine take_ (i := 6) (N := some 19) (v := ?_) (a' := ?_) #[true, true, true, true, true, true, true, false, false, false, false, false, false] rfl rfl (take_ofW HT_.out HW_.out (by kernel_rfl)) (fun _ _ _ h => h) (Or.inl ⟨by rfl, ?_⟩) hHeld ?_ ?_
       rotate_left
       · rintro w' ⟨s0, s9⟩
         first | (refine blk_yield2 (T := 32) s0 ?_ ⟨_, Try.underlying32, rfl⟩ ?_; exact ⟨rfl, rfl⟩; kernel_rfl) | (refine blk_yield2 (T := 32) s9 ?_ ⟨_, Try.underlying32, rfl⟩ ?_; exact ⟨rfl, rfl⟩; kernel_rfl) | (refine blk9_ s0 fun _ _ _ _ _ _ _ _ _ _ _ _ _ _ _ _ _ _ => ?_; refine blk9_ s9 fun _ _ _ _ _ _ _ _ _ _ _ _ _ _ _ _ _ _ => ?_; go_simp; with_reducible rfl)
       rotate_left
       · simp only [Act.put, List.setIfInBounds_toArray, List.set_cons_zero, List.set_cons_succ, i64_w, i32_w]
         rfl
       refine take_ (i := 8) (N := some 21) (v := ?_) (a' := ?_) #[true, true, true, true, true, true, true, false, true, false, false, false, false] rfl rfl (take_ofW HT_.out HW_.out (by kernel_rfl)) (fun _ _ _ h => h) (Or.inl ⟨by rfl, ?_⟩) hHeld ?_ ?_
       rotate_left
       · rintro w' ⟨s0, s9⟩
         first | (refine blk_yield2 (T := 32) s0 ?_ ⟨_, Try.underlying32, rfl⟩ ?_; exact ⟨rfl, rfl⟩; kernel_rfl) | (refine blk_yield2 (T := 32) s9 ?_ ⟨_, Try.underlying32, rfl⟩ ?_; exact ⟨rfl, rfl⟩; kernel_rfl) | (refine blk9_ s0 fun _ _ _ _ _ _ _ _ _ _ _ _ _ _ _ _ _ _ => ?_; refine blk9_ s9 fun _ _ _ _ _ _ _ _ _ _ _ _ _ _ _ _ _ _ => ?_; go_simp; with_reducible rfl)
       rotate_left
       · simp only [Act.put, List.setIfInBounds_toArray, List.set_cons_zero, List.set_cons_succ, i64_w, i32_w]
         rfl
       refine one_ (i := 7) (N := some 20) #[true, true, true, true, true, true, true, true, true, false, false, false, false] rfl rfl (one_of HT_.out (by kernel_rfl)) (by decide) (fun K hK => ?_)
       refine goes_ Try.func45 (by kernel_rfl) rfl #[.agg #[.int .i64 a0_0, .int .i64 a0_1, .int .i64 a0_2, .int .i64 a0_3, .int .i64 a0_4, .int .i64 a0_5, .slice A0_6 l0_6.length c0_6, .slice A0_7 l0_7.length c0_7, .bool a0_8]] (by rfl) rfl rfl (by (try simp only [List.map_toArray, List.map_cons, List.map_nil]); first | done | rfl | (simp only [List.length_drop, List.length_take]; rfl)) ?_
       with_reducible refine (command_Keys.calls kj2 a0_0 a0_1 a0_2 a0_3 a0_4 a0_5 _ _ l0_6 _ _ l0_7 a0_8 t611 _ ?side1 ?side2 ?side3 ?side4 A15.out).mono ?_
       (case side1 => exact kc_ (Kd.C_below HR0_6.out HB.out))
       (case side2 => exact HC0_6.out)
       (case side3 => exact kc_ (Kd.C_below HR0_7.out HB.out))
       (case side4 => exact HC0_7.out)
       rintro e w19 ⟨v612, rfl, ho0, hb⟩
       refine ⟨_, rfl, ?_⟩
       have n0_ := Aside0.mk (Kd.R_lower ho0 (below_size (by repeat (first | (with_reducible first | exact HB.out | apply below_alloc | apply pw_below_drewN | apply below_drew1 | refine below_set ?_ GE609.out | refine below_set ?_ GE610.out) | exact HB.out))))
       have n1_ := Aside0.mk (blk_below (kb_ BK609.out) hb)
       have n2_ := Aside0.mk (blk_below (kb_ BK610.out) hb)
       have n3_ := Aside0.mk (below_step (by repeat (first | (with_reducible first | exact HB.out | apply below_alloc | apply pw_below_drewN | apply below_drew1 | refine below_set ?_ GE609.out | refine below_set ?_ GE610.out) | exact HB.out)) hb)
       clear BK609
       clear BK610
       clear HB
       have HO613 := n0_
       have BK609 := n1_
       have BK610 := n2_
       have HB := n3_
       clear n0_ n1_ n2_ n3_
       (try clear hb)
       (try clear hb2)
       (try clear hk)
       (try clear hi)
       (try clear ho0)
       refine hK.out _ _ ⟨BK609.out, BK610.out⟩ (fun hHeld => ?_)
       clear hK K
       refine norm_ (a' := ?_) ?_ ?_
       rotate_left
       · show Act.put _ (some 20) _ = _
         simp only [Act.put, List.setIfInBounds_toArray, List.set_cons_zero, List.set_cons_succ, i64_w, i32_w]
         rfl
       refine one_ (i := 9) (N := some 22) #[true, true, true, true, true, true, true, true, true, true, false, false, false] rfl rfl (one_of HT_.out (by kernel_rfl)) (by decide) (fun K hK => ?_)
       refine goes_ Try.func45 (by kernel_rfl) rfl #[.agg #[.int .i64 a1_0, .int .i64 a1_1, .int .i64 a1_2, .int .i64 a1_3, .int .i64 a1_4, .int .i64 a1_5, .slice A1_6 l1_6.length c1_6, .slice A1_7 l1_7.length c1_7, .bool a1_8]] (by rfl) rfl rfl (by (try simp only [List.map_toArray, List.map_cons, List.map_nil]); first | done | rfl | (simp only [List.length_drop, List.length_take]; rfl)) ?_
       with_reducible refine (command_Keys.calls kj2 a1_0 a1_1 a1_2 a1_3 a1_4 a1_5 _ _ l1_6 _ _ l1_7 a1_8 t614 _ ?side1 ?side2 ?side3 ?side4 A16.out).mono ?_
       (case side1 => exact kc_ (Kd.C_below HR1_6.out HB.out))
       (case side2 => exact HC1_6.out)
       (case side3 => exact kc_ (Kd.C_below HR1_7.out HB.out))
       (case side4 => exact HC1_7.out)
       rintro e w20 ⟨v615, rfl, ho0, hb⟩
       refine ⟨_, rfl, ?_⟩
       have n0_ := Aside0.mk (Kd.R_elder' (kr_ HO613.out) (Kd.R_base ho0) hb)
       have n1_ := Aside0.mk (Kd.R_lower (Kd.R_new' ho0 (Kd.R_lt (kr_ HO613.out))) (below_size (by repeat (first | (with_reducible first | exact HB.out | apply below_alloc | apply pw_below_drewN | apply below_drew1 | refine below_set ?_ GE609.out | refine below_set ?_ GE610.out) | exact HB.out))))
       have n2_ := Aside0.mk (blk_below (kb_ BK609.out) hb)
       have n3_ := Aside0.mk (blk_below (kb_ BK610.out) hb)
       have n4_ := Aside0.mk (below_step (by repeat (first | (with_reducible first | exact HB.out | apply below_alloc | apply pw_below_drewN | apply below_drew1 | refine below_set ?_ GE609.out | refine below_set ?_ GE610.out) | exact HB.out)) hb)
       clear HO613
       clear BK609
       clear BK610
       clear HB
       have HO613 := n0_
       have HO616 := n1_
       have BK609 := n2_
       have BK610 := n3_
       have HB := n4_
       clear n0_ n1_ n2_ n3_ n4_
       (try clear hb)
       (try clear hb2)
       (try clear hk)
       (try clear hi)
       (try clear ho0)
       obtain ⟨Ao21, co21, eo21⟩ := Kd.R_slice HO613.out
       (first | subst eo21 | (injection eo21 with f1_ f2_ f3_; have f4_ := f1_.symm; have f5_ := f3_.symm; clear f1_ f2_ f3_; subst f4_; subst f5_))
       obtain ⟨Ao22, co22, eo22⟩ := Kd.R_slice HO616.out
       (first | subst eo22 | (injection eo22 with f1_ f2_ f3_; have f4_ := f1_.symm; have f5_ := f3_.symm; clear f1_ f2_ f3_; subst f4_; subst f5_))
       refine hK.out _ _ ⟨BK609.out, BK610.out⟩ (fun hHeld => ?_)
       clear hK K
       refine norm_ (a' := ?_) ?_ ?_
       rotate_left
       · show Act.put _ (some 22) _ = _
         simp only [Act.put, List.setIfInBounds_toArray, List.set_cons_zero, List.set_cons_succ, i64_w, i32_w]
         rfl
       refine one_ (i := 10) (N := some 23) #[true, true, true, true, true, true, true, true, true, true, true, false, false] rfl rfl (one_of HT_.out (by kernel_rfl)) (by decide) (fun K hK => ?_)
       refine goes_ Try.func44 (by kernel_rfl) rfl #[.slice Ao21 t611.length co21, .slice Ao22 t614.length co22] (by rfl) rfl rfl (by (try simp only [List.map_toArray, List.map_cons, List.map_nil]); first | done | rfl | (simp only [List.length_drop, List.length_take]; rfl)) ?_
       with_reducible refine (keys_Meet.calls _ _ t611 _ _ t614 t617 _ ?side1 ?side2 ?side3 ?side4 A17.out).mono ?_
       (case side1 => repeat (first | exact (Kd.R_reads' HO613.out).2.2 | (with_reducible refine Kd.C_alloc ?_ _) | (with_reducible refine Kd.C_drewN ?_ _) | (with_reducible refine Kd.C_drew ?_)))
       (case side2 => exact (Kd.R_reads' HO613.out).2.1)
       (case side3 => repeat (first | exact (Kd.R_reads' HO616.out).2.2 | (with_reducible refine Kd.C_alloc ?_ _) | (with_reducible refine Kd.C_drewN ?_ _) | (with_reducible refine Kd.C_drew ?_)))
       (case side4 => exact (Kd.R_reads' HO616.out).2.1)
       rintro e w23 ⟨rfl, hb⟩
       refine ⟨_, rfl, ?_⟩
       have n0_ := Aside0.mk (Kd.R_below (kr_ HO613.out) hb)
       have n1_ := Aside0.mk (Kd.R_below (kr_ HO616.out) hb)
       have n2_ := Aside0.mk (blk_below (kb_ BK609.out) hb)
       have n3_ := Aside0.mk (blk_below (kb_ BK610.out) hb)
       have n4_ := Aside0.mk (below_step (by repeat (first | (with_reducible first | exact HB.out | apply below_alloc | apply pw_below_drewN | apply below_drew1 | refine below_set ?_ GE609.out | refine below_set ?_ GE610.out) | exact HB.out)) hb)
       clear HO613
       clear HO616
       clear BK609
       clear BK610
       clear HB
       have HO613 := n0_
       have HO616 := n1_
       have BK609 := n2_
       have BK610 := n3_
       have HB := n4_
       clear n0_ n1_ n2_ n3_ n4_
       (try clear hb)
       (try clear hb2)
       (try clear hk)
       (try clear hi)
       refine hK.out _ _ ⟨BK609.out, BK610.out⟩ (fun hHeld => ?_)
       clear hK K
       refine norm_ (a' := ?_) ?_ ?_
       rotate_left
       · show Act.put _ (some 23) _ = _
         simp only [Act.put, List.setIfInBounds_toArray, List.set_cons_zero, List.set_cons_succ, i64_w, i32_w]
         rfl
       refine pure_ (i := 11) (N := some 24) (v := ?_) (a' := ?_) #[true, true, true, true, true, true, true, true, true, true, true, true, false] rfl rfl (any_of HT_.out (by kernel_rfl)) (fun _ _ _ h => h) (Or.inl ⟨by rfl, ?_⟩) ?_ ?_
       rotate_left
       · intro w'
         go_simp
         with_reducible rfl
       rotate_left
       · simp only [Act.put, List.setIfInBounds_toArray, List.set_cons_zero, List.set_cons_succ, i64_w, i32_w]
         rfl
       refine pure_ (i := 12) (N := some 4) (v := ?_) (a' := ?_) #[true, true, true, true, true, true, true, true, true, true, true, true, true] rfl rfl (any_of HT_.out (by kernel_rfl)) (fun _ _ _ h => h) (Or.inl ⟨by rfl, ?_⟩) ?_ ?_
       rotate_left
       · intro w'
         go_simp
         with_reducible rfl
       rotate_left
       · simp only [Act.put, List.setIfInBounds_toArray, List.set_cons_zero, List.set_cons_succ, i64_w, i32_w]
         rfl
       refine done_ (done_of HT_.out (by kernel_rfl)) ?_
       try go_wp2
       go_ret
       exact ⟨by first | rfl | (simp [errW_none, errW_some] <;> rfl) | (simp [*, errW_none, errW_some] <;> rfl), by repeat (first | (with_reducible first | exact HB.out | apply below_alloc | apply pw_below_drewN | apply below_drew1 | refine below_set ?_ GE609.out | refine below_set ?_ GE610.out) | exact HB.out)⟩
end Go.Proofs.Ytklbmdakoeoplaa.X
end
section
namespace Go.Proofs.Ytklbmdakoeoplaa.X
open Go.RowKit Go.Proofs.YtklbmdakoeoplaaW.PrintWords Go.Proofs.YtklbmdakoeoplaaW.PrintLast Go.Proofs.YtklbmdakoeoplaaW.PrintMore
set_option linter.unusedVariables false
set_option linter.unusedSimpArgs false
attribute [local go_sem high] eqA24
set_option maxRecDepth 100000 in
set_option maxHeartbeats 4000000 in
theorem against1_any (k : Nat) (x0 : Int) (x1 : Int) (x2 : Int) (x3 : Int) (x4 : Int) (x5 : Int) (x6 : Int) (x7 : Int) (x8 : Int) (x9 : Int) (x10 : Int) (x11 : Int) (x12 : Int) (A13 : Option Addr) (c13 : Nat) (xr : List S61) (A14 : Option Addr) (c14 : Nat) (xw : List S46) (x15 : Bool) (x16 : Int) (x17 : Int) (x18 : Int) (x19 : Int) (x20 : Int) (x21 : Int) (x22 : Int) (x23 : Int) (x24 : Bool) (i0 i1 d0 d1 d2 d3 d4 d5 : Int) (D6 : Option Addr) (e6 : Nat) (yr : List S61) (D7 : Option Addr) (e7 : Nat) (yw : List S46) (d8 : Bool) (gi gc : Nat) (w : World)
    (hi : w.heap[gi]? = some (.cells #[.int .i64 i0, .int .i64 i1] 24 (0, 0))) (hc : w.heap[gc]? = some (.cells #[.int .i64 d0, .int .i64 d1, .int .i64 d2, .int .i64 d3, .int .i64 d4, .int .i64 d5, .slice D6 yr.length e6, .slice D7 yw.length e7, .bool d8] 32 (0, 0)))
    (r13 : Kd.C k61 w A13 xr.length xr) (h13 : xr.length ≤ c13) (r14 : Kd.C k46 w A14 xw.length xw) (h14 : xw.length ≤ c14)
    (r6 : Kd.C k61 w D6 yr.length yr) (h6 : yr.length ≤ e6) (r7 : Kd.C k46 w D7 yw.length yw) (h7 : yw.length ≤ e7)
    (q : Bool) (hq : command_Interfere.f k x7 x8 x9 x10 x11 x12 xr xw x15 d0 d1 d2 d3 d4 d5 yr yw d8 = some q) :
    Calls Try.prog 35 #[.agg #[.int .i64 x0, .int .i64 x1, .int .i64 x2, .int .i64 x3, .int .i64 x4, .int .i64 x5, .int .i64 x6, .int .i64 x7, .int .i64 x8, .int .i64 x9, .int .i64 x10, .int .i64 x11, .int .i64 x12, .slice A13 xr.length c13, .slice A14 xw.length c14, .bool x15, .int .i64 x16, .int .i64 x17, .int .i64 x18, .int .i64 x19, .int .i64 x20, .int .i64 x21, .int .i64 x22, .int .i64 x23, .bool x24], .pointer (some ⟨gi, 0, none⟩), .pointer (some ⟨gc, 0, none⟩)] w fun e w' => e = .returned (.bool ((x0 == i0 && (x1 == i1)) || decide (x2 ≤ 0) || !q)) ∧ Below w.heap.size w w' := by
  have HI := Aside0.mk hi
  have HC := Aside0.mk hc
  have HQ := Aside0.mk hq
  have R13 := Aside0.mk r13
  have R14 := Aside0.mk r14
  have R6 := Aside0.mk r6
  have R7 := Aside0.mk r7
  have H13 := Aside0.mk h13
  have H14 := Aside0.mk h14
  have H6 := Aside0.mk h6
  have H7 := Aside0.mk h7
  clear hi hc hq r13 r14 r6 r7 h13 h14 h6 h7
  cases e1 : (x0 == i0 && (x1 == i1)) <;> cases e2 : decide (x2 ≤ 0)
  all_goals go_enter Try.func35, Try.ntmps35
  all_goals go_wp2_with (first
    | ((with_reducible refine gate_dst (N := 3) rfl ?_); refine box_event ?hg (N := 3) ?hd (cs := #[.int .i64 x0, .int .i64 x1, .int .i64 x2, .int .i64 x3, .int .i64 x4, .int .i64 x5, .int .i64 x6, .int .i64 x7, .int .i64 x8, .int .i64 x9, .int .i64 x10, .int .i64 x11, .int .i64 x12, .slice A13 xr.length c13, .slice A14 xw.length c14, .bool x15, .int .i64 x16, .int .i64 x17, .int .i64 x18, .int .i64 x19, .int .i64 x20, .int .i64 x21, .int .i64 x22, .int .i64 x23, .bool x24]) (t := 44) ?hr ?_; (case hd => rfl); (case hg => rfl); (case hr => first | (go_simp; done) | (go_simp; rfl)); intro gb hg w8 hbox hb; have HB := Aside0.mk hb; refine blk25_ hbox fun hz0 hz1 hz2 hz3 hz4 hz5 hz6 hz7 hz8 hz9 hz10 hz11 hz12 hz13 hz14 hz15 hz16 hz17 hz18 hz19 hz20 hz21 hz22 hz23 hz24 fz0 fz1 fz2 fz3 fz4 fz5 fz6 fz7 fz8 fz9 fz10 fz11 fz12 fz13 fz14 fz15 fz16 fz17 fz18 fz19 fz20 fz21 fz22 fz23 fz24 => ?_; refine blk2_ (blk_below HI.out hb) fun hj0 hj1 fj0 fj1 => ?_; refine blk9_ (blk_below HC.out hb) fun hd0 hd1 hd2 hd3 hd4 hd5 hd6 hd7 hd8 fd0 fd1 fd2 fd3 fd4 fd5 fd6 fd7 fd8 => ?_; clear hbox hb hg)
    | (go_at_call 36; refine (command_Interfere.calls k x7 x8 x9 x10 x11 x12 A13 c13 xr A14 c14 xw x15 d0 d1 d2 d3 d4 d5 D6 e6 yr D7 e7 yw d8 q _ (Kd.C_below R13.out HB.out) H13.out (Kd.C_below R14.out HB.out) H14.out (Kd.C_below R6.out HB.out) H6.out (Kd.C_below R7.out HB.out) H7.out HQ.out).mono ?_; rintro e w' ⟨rfl, hb⟩; have HB2 := Aside0.mk (below_step HB.out hb); clear hb))
  all_goals go_ret
  all_goals exact ⟨by first | rfl | (simp; done), by first | exact HB2.out | exact HB.out⟩
set_option maxRecDepth 100000 in
set_option maxHeartbeats 4000000 in
theorem indexFunc_against (A0 : Option Addr) (n c0 : Nat) (p : Nat → Bool) (gi gc : Nat) (w : World) (hn : n ≤ 1000000)
    (hel : ∀ j, j < n → ∃ ad v vs, A0 = some ad ∧ vs.length = 24 ∧ w.cell? (ad.add (j * 25)) = some v ∧ CellsAt w (ad.add (j * 25)) 1 vs ∧ ∀ w1, Below w.heap.size w w1 → Calls Try.prog 35 #[.agg (v :: vs).toArray, .pointer (some ⟨gi, 0, none⟩), .pointer (some ⟨gc, 0, none⟩)] w1 fun e w' => e = .returned (.bool (p j)) ∧ Below w1.heap.size w1 w') :
    Calls Try.prog 43 #[.slice A0 n c0, .func (.func 35) #[] #[.pointer (some ⟨gi, 0, none⟩), .pointer (some ⟨gc, 0, none⟩)]] w fun e w' => ∃ m : Int, e = .returned (.int .i64 m) ∧ FirstAt n p m ∧ Below w.heap.size w w' := by
  have HN := Lib.hid hn
  have HEL := Lib.hid hel
  clear hel hn
  go_enter Try.func43, Try.ntmps43
  go_wp2
  go_loopw [8] (fun i wr => ∃ j : Nat, j ≤ n ∧ i = .int .i64 j ∧ Hid (∀ t, t < j → p t = false) ∧ Hid (Below w.heap.size w wr)) (fun i _ => n - (intOf i).toNat)
  case atStart => exact ⟨0, by omega, rfl, Lib.hid (fun t ht => by omega), Lib.hid (Below.refl _ _)⟩
  case round =>
    obtain ⟨j, hj, rfl, hS, hw⟩ := hrel
    by_cases hlt : j < n
    · obtain ⟨ad, v, vs, hA, hl, hv, hvs, hcall⟩ := HEL.out j hlt
      subst hA
      have HV := Lib.hid ((hw.out.cell (World.block_lt_of_cell? w _ hv)).trans hv)
      have HVS := Lib.hid (CellsAt.below vs 1 hvs hw.out)
      have HC := Lib.hid (hcall wr hw.out)
      have HL := Lib.hid hl
      have hjn := HN.out
      clear hv hvs hcall hl
      go_wp2_with (first
        | ((with_reducible refine gate_dst (N := 15) rfl ?_); refine cells_load_event ?lg (N := 15) ?ld (t := 44) (x := ?lxx) ?lo (p := ?lpp) ?lx (v := v) (cs := vs) ?lD ?lt ?l0 ?lc ?_; (case lg => rfl); (case ld => rfl); (case lo => rfl); (case lx => first | rfl | (go_simp; done) | (go_simp; rfl)); (case lD => exact ⟨_, Try.underlying44, rfl⟩); (case lt => rw [HL.out]; kernel_rfl); (case l0 => exact HV.out); (case lc => exact HVS.out))
        | (go_at_call 35; refine HC.out.mono ?_; rintro e w' ⟨rfl, hb⟩; have HB := Lib.hid (below_step hw.out hb); clear hb; have HP := Lib.hid (rfl : p j = p j); generalize hpj : p j = b at HP ⊢; have HPJ := Lib.hid hpj; clear hpj; cases b))
      all_goals first
        | (go_ret; exact ⟨j, rfl, .inr ⟨j, rfl, hlt, HPJ.out, hS.out⟩, HB.out⟩)
        | exact ⟨⟨j + 1, by omega, by simp, Lib.hid (fun t ht => by
            rcases Nat.lt_succ_iff_lt_or_eq.1 ht with h | h
            · exact hS.out t h
            · rw [h]; exact HPJ.out), HB⟩, by simp [intOf]; omega⟩
    · go_wp2
      go_ret
      obtain rfl : j = n := by omega
      exact ⟨-1, rfl, .inl ⟨rfl, hS.out⟩, hw.out⟩
end Go.Proofs.Ytklbmdakoeoplaa.X
end
section
namespace Go.Proofs.Ytklbmdakoeoplaa.X
open Go.RowKit Go.Proofs.YtklbmdakoeoplaaW.PrintWords Go.Proofs.YtklbmdakoeoplaaW.PrintLast Go.Proofs.YtklbmdakoeoplaaW.PrintMore
set_option linter.unusedVariables false
set_option linter.unusedSimpArgs false
/-- The numbers below n that are kept. -/
def keep (n : Nat) (p : Nat → Bool) : List Nat := (List.range n).filter (fun j => !p j)
theorem keep_le (n : Nat) (p : Nat → Bool) : (keep n p).length ≤ n := by
  have := List.length_filter_le (fun j => !p j) (List.range n)
  rw [List.length_range] at this
  exact this
theorem keep_succ (n : Nat) (p : Nat → Bool) : keep (n + 1) p = keep n p ++ (if p n = true then [] else [n]) := by
  unfold keep
  rw [List.range_succ, List.filter_append]
  cases h : p n <;> simp [h]
theorem keep_all {n : Nat} {p : Nat → Bool} (h : ∀ j, j < n → p j = false) : keep n p = List.range n := by
  unfold keep
  rw [List.filter_eq_self]
  intro j hj
  rw [h j (by simpa using hj)]; rfl
theorem flat_take (cs : List Value) (css : Nat → List Value) : ∀ n, n * 25 ≤ cs.length → (∀ j, j < n → (cs.drop (j * 25)).take 25 = css j) → cs.take (n * 25) = (List.range n).flatMap css
  | 0, _, _ => by simp
  | n + 1, hl, h => by
    have ih := flat_take cs css n (by omega) (fun j hj => h j (by omega))
    rw [List.range_succ, List.flatMap_append, ← ih, show (n + 1) * 25 = n * 25 + 25 by omega, List.take_add, h n (by omega)]
    simp
/-- A store of a whole struct into a row's block. -/
theorem agg_store_event {P : Program} {ops : Array Oper} {rest : List Oper} {o : Oper} {a : Act} {Q : Exit → Act → World → Prop} {W : World} (hg : o.guard = none) (hd : o.dst = none) {t : TypeId} {x y : Operand} (ho : o.op = .store t x y) {b of : Nat} {cs : List Value}
    {cur : Array Value} {e : TypeId} (hx : a.eval x = .pointer (some ⟨b, of, none⟩)) (hy : a.eval y = .agg cs.toArray) (hb : W.heap[b]? = some (.cells cur e (0, 0))) (hfit : of + cs.length ≤ cur.size) (h1 : ∀ u ∈ cs, u.oneCell' = true) (ht : (P.info? t).map (·.size) = some cs.length)
    (h : ∀ w1 cur', w1.heap[b]? = some (.cells cur' e (0, 0)) → cur'.size = cur.size → cur'.toList = cur.toList.take of ++ cs ++ cur.toList.drop (of + cs.length) → W.grownBy w1 (some b) → wpList P ops Q rest a w1) : wpList P ops Q (o :: rest) a W := by
  obtain ⟨cur', h3, h4, h5⟩ := setCells_row cs of W cur hb hfit
  obtain ⟨s1, s2, s3, s4⟩ := setCells_same b cs of W
  refine wpList_plain hg fun K hK => ?_
  have hst := run_store_run (P := P) t (.agg cs.toArray) cs hb (by simp [Value.cells]) ht hfit h1
  unfold Oper.wp execOp
  simp only [ho, hx, hy, Sem.run_bind, Sem.run_pure, Result.andThen_ok, hst]
  show K (a.put o.dst undef) _
  rw [hd]
  exact hK _ _ (h _ _ h3 h4 h5 ⟨s1, s2, s3, by rw [s4]; exact Nat.le_refl _, fun k hk hne => setCells_far _ _ k (fun e => hne (by rw [e]))⟩)
theorem zeroCells_one {z : Value} {n : Nat} (hz : ∀ u ∈ z.cells.toList, u.oneCell' = true) (h0 : 0 < z.cells.size) : ∀ u ∈ (Builtin.zeroCells z.cells n).toList, u.oneCell' = true := by
  intro u hu
  unfold Builtin.zeroCells at hu
  simp only [Array.toList_map, List.mem_map] at hu
  obtain ⟨i, _, rfl⟩ := hu
  have hi : i % z.cells.size < z.cells.size := Nat.mod_lt _ h0
  rw [getElem!_pos z.cells _ hi]
  exact hz _ (Array.getElem_mem_toList hi)
/-- 'clear(s)' of a row of structs. -/
theorem run_clear_row {P : Program} (w : World) (t e ty : TypeId) (z : Value) (ht : P.underlying t = some (.slice e)) (hv : ∀ w, (zeroValue e).run P w = .ok z w) (hz : ∀ u ∈ z.cells.toList, u.oneCell' = true) (hs : z.cells.size = 25) (b of n c : Nat) (hn : 0 < n)
    {cur : Array Value} {et : TypeId} (hb : w.heap[b]? = some (.cells cur et (0, 0))) (hfit : of + n * 25 ≤ cur.size) :
    ∃ w1 cur', (Builtin.clear_ #[t] ty #[.slice (some ⟨b, of, none⟩) n c]).run P w = .ok (.tuple #[]) w1 ∧ w1.heap[b]? = some (.cells cur' et (0, 0)) ∧ cur'.size = cur.size ∧ cur'.toList.take of = cur.toList.take of ∧ w.grownBy w1 (some b) := by
  have hl : (Builtin.zeroCells z.cells n).toList.length = n * 25 := by simp [Builtin.zeroCells, hs]
  have h1 := zeroCells_one (n := n) hz (by omega)
  obtain ⟨cur', h3, h4, h5⟩ := setCells_row (Builtin.zeroCells z.cells n).toList of w cur hb (by rw [hl]; exact hfit)
  obtain ⟨s1, s2, s3, s4⟩ := setCells_same b (Builtin.zeroCells z.cells n).toList of w
  have hst := run_storeCells_cells (P := P) b of (Builtin.zeroCells z.cells n).toList 0 w (fun j hj => by rw [cell_of_row w b _ cur et (0, 0) hb]; simp; omega) (fun j _ => blk_frozen hb _) h1
  simp only [Nat.add_zero] at hst
  obtain ⟨m, rfl⟩ : ∃ m, n = m + 1 := ⟨n - 1, by omega⟩
  refine ⟨_, cur', ?_, h3, h4, ?_, ⟨s1, s2, s3, by rw [s4]; exact Nat.le_refl _, fun k hk hne => setCells_far _ _ k (fun e => hne (by rw [e]))⟩⟩
  · simp [Builtin.clear_, run_underlying ht, hv, hst]
  · rw [h5, List.append_assoc, List.take_append_of_le_length (by rw [List.length_take, Array.length_toList]; omega), List.take_take, Nat.min_self]
theorem grown_trans {w w1 w2 : World} {r : Option Nat} (h : w.grownBy w1 r) (k : w1.grownBy w2 r) : w.grownBy w2 r :=
  ⟨k.os.trans h.os, k.tape.trans h.tape, k.output.trans h.output, Nat.le_trans h.size k.size, fun i hi hne => (k.block i (Nat.lt_of_lt_of_le hi h.size) hne).trans (h.block i hi hne)⟩
theorem grown_below {w w1 : World} {r : Option Nat} (h : Below w.heap.size w w1) : w.grownBy w1 r := ⟨h.os, h.tape, h.output, h.size, fun i hi _ => h.block i hi⟩
/-- A row's cells, one element's. -/
theorem row_at {W : World} {b : Nat} {cur : Array Value} {e : TypeId} (hb : W.heap[b]? = some (.cells cur e (0, 0))) (o : Nat) (cs : List Value) (h : (cur.toList.drop o).take 25 = cs) : ∀ j u, cs[j]? = some u → W.cell? ⟨b, o + j, none⟩ = some u := by
  intro j u hu
  subst h
  rw [cell_of_row W b _ cur e (0, 0) hb]
  rw [List.getElem?_take] at hu
  split at hu
  · rw [List.getElem?_drop] at hu
    rw [← Array.getElem?_toList]; exact hu
  · cases hu
theorem cellsAt_of {W : World} {b o : Nat} : ∀ (cs : List Value) (k : Nat), (∀ j u, cs[j]? = some u → W.cell? ⟨b, o + (k + j), none⟩ = some u) → CellsAt W ⟨b, o, none⟩ k cs
  | [], _, _ => trivial
  | c :: cs, k, h => ⟨by have := h 0 c (by simp); simpa using this, cellsAt_of cs (k + 1) (fun j u hu => by
      have := h (j + 1) u (by simpa using hu)
      rwa [show k + (j + 1) = k + 1 + j by omega] at this)⟩
theorem addr_plain_add (b o j : Nat) : (⟨b, o, none⟩ : Addr).add j = ⟨b, o + j, none⟩ := by unfold Addr.add; split <;> simp_all
/-- How far DeleteFunc has come: of the first j those that are kept stand at the front; the others are as they were. -/
def MovedTo (css : Nat → List Value) (p : Nat → Bool) (n b : Nat) (cur : Array Value) (j : Nat) (W : World) : Prop :=
  ∃ cur' : Array Value, W.heap[b]? = some (.cells cur' 44 (0, 0)) ∧ cur'.size = cur.size ∧ cur'.toList.take ((keep j p).length * 25) = (keep j p).flatMap css ∧ ∀ t, j ≤ t → t < n → (cur'.toList.drop (t * 25)).take 25 = css t
theorem MovedTo.below {css : Nat → List Value} {p : Nat → Bool} {n b : Nat} {cur : Array Value} {j : Nat} {W W1 : World} (h : MovedTo css p n b cur j W) (hb : Below W.heap.size W W1) : MovedTo css p n b cur j W1 := by
  obtain ⟨cur', h1, h2, h3, h4⟩ := h
  exact ⟨cur', blk_below h1 hb, h2, h3, h4⟩
theorem MovedTo.drop {css : Nat → List Value} {p : Nat → Bool} {n b : Nat} {cur : Array Value} {j : Nat} {W : World} (h : MovedTo css p n b cur j W) (hp : p j = true) : MovedTo css p n b cur (j + 1) W := by
  obtain ⟨cur', h1, h2, h3, h4⟩ := h
  refine ⟨cur', h1, h2, ?_, fun t ht htn => h4 t (by omega) htn⟩
  rw [keep_succ, if_pos hp, List.append_nil]; exact h3
theorem MovedTo.move {css : Nat → List Value} {p : Nat → Bool} {n b : Nat} {cur : Array Value} {j : Nat} {W1 : World} {cur' cur'' : Array Value} (h2 : cur'.size = cur.size) (h3 : cur'.toList.take ((keep j p).length * 25) = (keep j p).flatMap css) (h4 : ∀ t, j ≤ t → t < n → (cur'.toList.drop (t * 25)).take 25 = css t)
    (hp : p j = false) (hq : (keep j p).length < j) (hl : (css j).length = 25) (hsz : j * 25 + 25 ≤ cur.size)
    (k1 : W1.heap[b]? = some (.cells cur'' 44 (0, 0))) (k2 : cur''.size = cur'.size) (k3 : cur''.toList = cur'.toList.take ((keep j p).length * 25) ++ css j ++ cur'.toList.drop ((keep j p).length * 25 + (css j).length)) : MovedTo css p n b cur (j + 1) W1 := by
  have hlen : cur'.toList.length = cur.size := by rw [Array.length_toList, h2]
  have ht : (cur'.toList.take ((keep j p).length * 25)).length = (keep j p).length * 25 := by rw [List.length_take, hlen]; omega
  refine ⟨cur'', k1, k2.trans h2, ?_, fun t htj htn => ?_⟩
  · rw [keep_succ, if_neg (by rw [hp]; simp), List.length_append, List.length_singleton, List.flatMap_append, k3, ← h3]
    rw [show ((keep j p).length + 1) * 25 = (cur'.toList.take ((keep j p).length * 25) ++ css j).length by rw [List.length_append, ht, hl]; omega, List.take_left]
    simp
  · rw [k3, hl]
    rw [show t * 25 = (cur'.toList.take ((keep j p).length * 25) ++ css j).length + (t * 25 - ((keep j p).length * 25 + 25)) by rw [List.length_append, ht, hl]; omega, List.drop_append, List.drop_drop]
    rw [show (cur'.toList.take ((keep j p).length * 25) ++ css j).length = (keep j p).length * 25 + 25 by rw [List.length_append, ht, hl]]
    rw [List.drop_eq_nil_of_le (by rw [List.length_append, ht, hl]; omega), List.nil_append]
    rw [show (keep j p).length * 25 + 25 + ((keep j p).length * 25 + 25 + (t * 25 - ((keep j p).length * 25 + 25)) - ((keep j p).length * 25 + 25)) = t * 25 by omega]
    exact h4 t (by omega) htn
def zeroRec : Value := .agg #[.int .i64 0, .int .i64 0, .int .i64 0, .int .i64 0, .int .i64 0, .int .i64 0, .int .i64 0, .int .i64 0, .int .i64 0, .int .i64 0, .int .i64 0, .int .i64 0, .int .i64 0, .slice none 0 0, .slice none 0 0, .bool false, .int .i64 0, .int .i64 0, .int .i64 0, .int .i64 0, .int .i64 0, .int .i64 0, .int .i64 0, .int .i64 0, .bool false]
theorem zeroRec_run (w : World) : (zeroValue 44).run Try.prog w = .ok zeroRec w := by kernel_rfl
theorem MovedTo.move' {css : Nat → List Value} {p : Nat → Bool} {n b q : Nat} {cur : Array Value} {j : Nat} {W W1 : World} (hq : q = (keep j p).length) (hmv : MovedTo css p n b cur j W)
    (hp : p j = false) (hqj : q < j) (hl : (css j).length = 25) (hsz : j * 25 + 25 ≤ cur.size)
    (hk : ∀ cur' : Array Value, W.heap[b]? = some (.cells cur' 44 (0, 0)) → ∃ cur'' : Array Value, W1.heap[b]? = some (.cells cur'' 44 (0, 0)) ∧ cur''.size = cur'.size ∧ cur''.toList = cur'.toList.take (q * 25) ++ css j ++ cur'.toList.drop (q * 25 + (css j).length)) : MovedTo css p n b cur (j + 1) W1 := by
  subst hq
  obtain ⟨cur', h1, h2, h3, h4⟩ := hmv
  obtain ⟨cur'', k1, k2, k3⟩ := hk cur' h1
  exact MovedTo.move h2 h3 h4 hp hqj hl hsz k1 k2 k3
set_option maxRecDepth 100000 in
set_option maxHeartbeats 8000000 in
theorem deleteFunc_any (b n c : Nat) (cur : Array Value) (css : Nat → List Value) (p : Nat → Bool) (gi gc : Nat) (w : World)
    (hb : w.heap[b]? = some (.cells cur 44 (0, 0))) (hsz : cur.size = c * 25) (hn : n ≤ c) (hmax : n ≤ 1000000)
    (hcell : ∀ j, j < n → (cur.toList.drop (j * 25)).take 25 = css j) (hone : ∀ j, j < n → ∀ u ∈ css j, u.oneCell' = true)
    (hcall : ∀ j, j < n → ∀ w1, w.grownBy w1 (some b) → Calls Try.prog 35 #[.agg (css j).toArray, .pointer (some ⟨gi, 0, none⟩), .pointer (some ⟨gc, 0, none⟩)] w1 fun e w' => e = .returned (.bool (p j)) ∧ Below w1.heap.size w1 w') :
    Calls Try.prog 34 #[.slice (some ⟨b, 0, none⟩) n c, .func (.func 35) #[] #[.pointer (some ⟨gi, 0, none⟩), .pointer (some ⟨gc, 0, none⟩)]] w fun e w' => ∃ cur' : Array Value, e = .returned (.slice (some ⟨b, 0, none⟩) (keep n p).length c) ∧ w'.heap[b]? = some (.cells cur' 44 (0, 0)) ∧ cur'.size = cur.size ∧ cur'.toList.take ((keep n p).length * 25) = (keep n p).flatMap css ∧ w.grownBy w' (some b) := by
  have hblt : b < w.heap.size := blk_lt hb
  have hlen : ∀ j, j < n → (css j).length = 25 := fun j hj => by rw [← hcell j hj, List.length_take, List.length_drop, Array.length_toList]; omega
  have HI := Lib.hid (indexFunc_against (some ⟨b, 0, none⟩) n c p gi gc w hmax (fun j hj => by
    have h25 := hlen j hj
    have hrow := row_at hb (j * 25) (css j) (hcell j hj)
    have hc := hcall j hj
    cases hcs : css j with
    | nil => rw [hcs] at h25; simp at h25
    | cons v vs =>
      rw [hcs] at h25 hrow hc
      refine ⟨⟨b, 0, none⟩, v, vs, rfl, by simpa using h25, ?_, ?_, fun w1 hw1 => hc w1 (grown_below hw1)⟩
      · rw [addr_plain_add]
        have := hrow 0 v (by simp)
        simpa using this
      · rw [addr_plain_add]
        refine cellsAt_of vs 1 fun i u hu => ?_
        have := hrow (i + 1) u (by simpa using hu)
        rwa [show 0 + j * 25 + (1 + i) = j * 25 + (i + 1) by omega]))
  have HB := Lib.hid hb
  have HSZ := Lib.hid hsz
  have HCELL := Lib.hid hcell
  have HLEN := Lib.hid hlen
  have HONE := Lib.hid hone
  have HCALL := Lib.hid hcall
  have HBL := Lib.hid hblt
  clear hb hsz hcell hlen hone hcall hblt
  go_enter Try.func34, Try.ntmps34
  go_upto_if 12 with (go_at_call 43; refine HI.out.mono ?_; rintro e w0 ⟨m, rfl, hm, hb0⟩; have HM := Lib.hid hm; have HB0 := Lib.hid hb0; clear hm hb0)
  rcases HM.out with ⟨rfl, hall⟩ | ⟨i, rfl, hi, hp, hlt⟩
  · have HA := Lib.hid hall
    clear hall HM
    go_wp2
    go_ret
    have e := keep_all HA.out
    refine ⟨cur, ?_, blk_below HB.out HB0.out, rfl, ?_, grown_below HB0.out⟩
    · rw [e, List.length_range]; first | done | rfl
    · rw [e, List.length_range]
      exact flat_take cur.toList css n (by rw [Array.length_toList, HSZ.out]; omega) HCELL.out
  · have hne : ((i : Int) == -1) = false := by first | (simp; done) | (simp; omega)
    have HP := Lib.hid hp
    have HLT := Lib.hid hlt
    clear hp hlt HM
    have e0 : keep (i + 1) p = List.range i := by rw [keep_succ, if_pos HP.out, List.append_nil, keep_all HLT.out]
    have E0 := Lib.hid e0
    clear e0
    rw [hne]
    go_wp2
    go_loopw [5, 6] (fun x y wr => ∃ q j : Nat, x = .int .i64 q ∧ y = .int .i64 j ∧ j ≤ n ∧ q < j ∧ Hid (q = (keep j p).length) ∧ Hid (MovedTo css p n b cur j wr) ∧ Hid (w.grownBy wr (some b))) (fun _ y _ => n - (intOf y).toNat)
    case atStart =>
      refine ⟨i, i + 1, rfl, by simp, by omega, by omega, Lib.hid (by rw [E0.out, List.length_range]), Lib.hid ⟨cur, blk_below HB.out HB0.out, rfl, ?_, fun t _ ht => HCELL.out t ht⟩, Lib.hid (grown_below HB0.out)⟩
      rw [E0.out, List.length_range]
      exact flat_take cur.toList css i (by rw [Array.length_toList, HSZ.out]; omega) (fun j hj => HCELL.out j (by omega))
    case round =>
      obtain ⟨q, j, rfl, rfl, hjn, hqj, HQ, HMV, HG⟩ := hrel
      by_cases hlt : j < n
      · have hl25 := HLEN.out j hlt
        have hone := HONE.out j hlt
        have hcall := HCALL.out j hlt
        obtain ⟨cur1, m1, m2, m3, m4⟩ := HMV.out
        have hrow := row_at m1 (j * 25) (css j) (m4 j (Nat.le_refl _) hlt)
        have hfit : q * 25 + 25 ≤ cur.size := by rw [HSZ.out]; omega
        have hfit2 : j * 25 + 25 ≤ cur.size := by rw [HSZ.out]; omega
        cases hcs : css j with
        | nil => rw [hcs] at hl25; simp at hl25
        | cons v vs =>
          have HCS := Lib.hid hcs
          rw [hcs] at hl25 hone hcall hrow
          have HL : Hid (vs.length = 24) := Lib.hid (by simpa using hl25)
          have HO : Hid ((v :: vs).all (fun q => q.oneCell') = true) := Lib.hid (List.all_eq_true.2 hone)
          have HV : Hid (wr.cell? ⟨b, j * 25, none⟩ = some v) := Lib.hid (by have := hrow 0 v (by simp); simpa using this)
          have HVS : Hid (CellsAt wr ⟨b, j * 25, none⟩ 1 vs) := Lib.hid (cellsAt_of vs 1 fun i u hu => by
            have := hrow (i + 1) u (by simpa using hu)
            rwa [show j * 25 + (1 + i) = j * 25 + (i + 1) by omega])
          have HK := Lib.hid hcall
          have HF := Lib.hid hfit
          have HF2 := Lib.hid hfit2
          clear hl25 hone hcall hrow hcs m1 m2 m3 m4 cur1 hfit hfit2
          go_wp2_with (first
            | ((with_reducible refine gate_dst (N := 25) rfl ?_); refine cells_load_event ?lg (N := 25) ?ld (t := 44) (x := ?lxx) ?lo (p := ?lpp) ?lx (v := v) (cs := vs) ?lD ?lt ?l0 ?lc ?_; (case lg => rfl); (case ld => rfl); (case lo => rfl); (case lx => first | rfl | (go_simp; done) | (go_simp; rfl)); (case lD => exact ⟨_, Try.underlying44, rfl⟩); (case lt => rw [HL.out]; kernel_rfl); (case l0 => exact HV.out); (case lc => exact HVS.out))
            | ((with_reducible refine gate_dst (N := 7) rfl ?_); refine alloc_store_event ?hg1 (N := 7) ?hd1 ?hg2 ?hd2 ?ho2 (cs0 := #[.int .i64 0, .int .i64 0, .int .i64 0, .int .i64 0, .int .i64 0, .int .i64 0, .int .i64 0, .int .i64 0, .int .i64 0, .int .i64 0, .int .i64 0, .int .i64 0, .int .i64 0, .slice none 0 0, .slice none 0 0, .bool false, .int .i64 0, .int .i64 0, .int .i64 0, .int .i64 0, .int .i64 0, .int .i64 0, .int .i64 0, .int .i64 0, .bool false]) (cs := (v :: vs).toArray) (t := 44) (x := ?xxd) ?hr ?hp ?hx ?hs ?h1 ?ht ?_; (case hg1 => rfl); (case hd1 => rfl); (case hg2 => rfl); (case hd2 => rfl); (case ho2 => rfl); (case hr => first | (go_simp; done) | (go_simp; rfl)); (case hp => rfl); (case hx => rfl); (case hs => rw [List.size_toArray, List.length_cons, HL.out]; rfl); (case h1 => exact HO.out); (case ht => rw [List.size_toArray, List.length_cons, HL.out]; kernel_rfl); intro gv hg w1 hbox hb; have HG1 := Lib.hid (grown_trans HG.out (grown_below hb)); have HMV1 := Lib.hid (HMV.out.below hb); have BKV := Lib.hid hbox; clear hg hbox hb)
            | ((with_reducible refine gate_dst (N := 27) rfl ?_); refine blk_load_event ?lg2 (N := 27) ?ld2 (t := 44) (x := ?lxx2) ?lo2 (g := gv) ?lx2 (cs := _) BKV.out ?lD2 ?lt2 ?_; (case lg2 => rfl); (case ld2 => rfl); (case lo2 => rfl); (case lx2 => first | rfl | (go_simp; done) | (go_simp; rfl)); (case lD2 => exact ⟨_, Try.underlying44, rfl⟩); (case lt2 => rw [List.size_toArray, List.length_cons, HL.out]; kernel_rfl))
            | (go_at_call 35; refine (HK.out _ HG1.out).mono ?_; rintro e w2 ⟨rfl, hb2⟩; have HG2 := Lib.hid (grown_trans HG1.out (grown_below hb2)); have HMV2 := Lib.hid (HMV1.out.below hb2); have BKV2 := Lib.hid (blk_below BKV.out hb2); clear hb2; have HP0 := Lib.hid (rfl : p j = p j); generalize hpj : p j = pb at HP0 ⊢; have HPJ := Lib.hid hpj; clear hpj HP0; cases pb)
            | ((with_reducible refine gate_dst (N := 32) rfl ?_); refine blk_load_event ?lg3 (N := 32) ?ld3 (t := 44) (x := ?lxx3) ?lo3 (g := gv) ?lx3 (cs := _) BKV2.out ?lD3 ?lt3 ?_; (case lg3 => rfl); (case ld3 => rfl); (case lo3 => rfl); (case lx3 => first | rfl | (go_simp; done) | (go_simp; rfl)); (case lD3 => exact ⟨_, Try.underlying44, rfl⟩); (case lt3 => rw [List.size_toArray, List.length_cons, HL.out]; kernel_rfl); obtain ⟨curS, s1, s2, s3, s4⟩ := HMV2.out; have S1 := Lib.hid s1; have S2 := Lib.hid s2; clear s1 s2 s3 s4)
            | ((with_reducible refine agg_store_event (o := { dst := none, op := _, type := _, pos := _, after := _, guard := none }) rfl rfl (x := .tmp 33) (y := .tmp 32) (t := 44) ?so (b := b) (of := q * 25) (cs := v :: vs) (cur := curS) (e := 44) ?sx ?sy S1.out ?sf ?s1 ?st ?_); (case so => rfl); (case sx => first | rfl | (go_simp; done) | (go_simp; rfl)); (case sy => first | rfl | (go_simp; done) | (go_simp; rfl)); (case sf => rw [List.length_cons, HL.out, S2.out]; exact HF.out); (case s1 => exact List.all_eq_true.1 HO.out); (case st => rw [List.length_cons, HL.out]; kernel_rfl); intro w3 cur3 k1 k2 k3 kg; have HG3 := Lib.hid (grown_trans HG2.out kg); have HMV3 : Hid (MovedTo css p n b cur (j + 1) w3) := Lib.hid (MovedTo.move' HQ.out HMV2.out HPJ.out hqj (by rw [HCS.out, List.length_cons, HL.out]) HF2.out (fun cur' hcur' => by rw [S1.out] at hcur'; injection hcur' with e1; injection e1 with e2 _ _; subst e2; exact ⟨cur3, k1, k2, by rw [HCS.out]; exact k3⟩)); clear k1 k2 k3 kg))
          · go_roundw
            case rel => exact ⟨q + 1, j + 1, by simp, by simp, by omega, by omega, Lib.hid (by rw [keep_succ, if_neg (by rw [HPJ.out]; simp), List.length_append, ← HQ.out]; rfl), HMV3, HG3⟩
            case measure => simp [intOf]; omega
          · go_roundw
            case rel => exact ⟨q, j + 1, by simp, by simp, by omega, by omega, Lib.hid (by rw [keep_succ, if_pos HPJ.out, List.append_nil]; exact HQ.out), Lib.hid (HMV2.out.drop HPJ.out), HG2⟩
            case measure => simp [intOf]; omega
      · have hq := HQ.out
        obtain rfl : j = n := by omega
        obtain ⟨cur1, m1, m2, m3, m4⟩ := HMV.out
        obtain ⟨w1, cur2, hrun, k1, k2, k3, kg⟩ := run_clear_row (P := Try.prog) wr 22 44 0 zeroRec Try.underlying22 zeroRec_run (by decide) (by decide) b (q * 25) (j - q) (c - q) (by omega) m1 (by rw [m2, HSZ.out]; omega)
        have HRUN := Lib.hid hrun
        have M2 := Lib.hid m2
        have M3 := Lib.hid m3
        have K1 := Lib.hid k1
        have K2 := Lib.hid k2
        have K3 := Lib.hid k3
        have KG := Lib.hid kg
        clear hrun m1 m2 m3 m4 k1 k2 k3 kg hq
        go_wp2
        rw [HRUN.out]
        go_wp2
        go_ret
        refine ⟨cur2, ?_, K1.out, K2.out.trans M2.out, ?_, grown_trans HG.out KG.out⟩
        · rw [← HQ.out]; first | done | rfl
        · rw [← HQ.out, K3.out, HQ.out]; exact M3.out
end Go.Proofs.Ytklbmdakoeoplaa.X
end
section
namespace Go.Proofs.Ytklbmdakoeoplaa.Strs
open Go.RowKit Go.Proofs.YtklbmdakoeoplaaW.PrintWords Go.Proofs.YtklbmdakoeoplaaW.PrintLast Go.Proofs.YtklbmdakoeoplaaW.PrintMore Go.Proofs.Ytklbmdakoeoplaa.X
set_option linter.unusedSimpArgs false
set_option linter.unusedVariables false
theorem Ev.const {α : Type} {g : Option α} {r : α} (h : g = some r) : Ev (fun _ => g) r := ⟨0, fun _ _ => h⟩
theorem w1 (i : Nat) (h : i ≤ 100000000) : wrap64 ((i : Int) + 1) = ((i + 1 : Nat) : Int) := by unfold wrap64; omega
theorem rd_at (l : List ByteArray) (i : Nat) (h : i < l.length) : rdOf ByteArray.empty l (i : Int) = l[i] := rd_el l i h
theorem few_big {l : List ByteArray} (h : few l) : big l := ⟨by have := h.1; omega, fun x hx => by have := h.2 x hx; omega⟩
theorem dd_len : ∀ (l acc : List ByteArray), (dd acc l).length ≤ acc.length + l.length
  | [], acc => by simp [dd]
  | x :: l, acc => by
    unfold dd
    split
    · have := dd_len l acc; simp only [List.length_cons]; omega
    · have := dd_len l (acc ++ [x]); simp only [List.length_append, List.length_cons, List.length_nil] at *; omega
theorem joinB_len (a b : List ByteArray) : (joinB a b).length ≤ a.length + b.length := by
  unfold joinB
  rw [srt_length]
  have := dd_len (a ++ b) []
  simpa using this
theorem joinB_mem {a b : List ByteArray} {x : ByteArray} (h : x ∈ joinB a b) : x ∈ a ∨ x ∈ b := ((joinB_joined a b).2 x).1 h
theorem join_f {a b : List ByteArray} (ha : big a) (hb : big b) : keys_Join.f a b = some (joinB a b) := by unfold keys_Join.f; rw [if_pos ⟨ha, hb⟩]
end Go.Proofs.Ytklbmdakoeoplaa.Strs
end
section
namespace Go.Proofs.Ytklbmdakoeoplaa.Strs
open Go.RowKit Go.Proofs.YtklbmdakoeoplaaW.PrintWords Go.Proofs.YtklbmdakoeoplaaW.PrintLast Go.Proofs.YtklbmdakoeoplaaW.PrintMore Go.Proofs.Ytklbmdakoeoplaa.X
set_option linter.unusedSimpArgs false
set_option linter.unusedVariables false
theorem Ev.bindT {β : Type} {g : Nat → Option Bool} {f1 f2 : Nat → Option β} {r : β} (h : Ev g true) (k : Ev f1 r) : Ev (fun n => (g n).bind fun t => if t = true then f1 n else f2 n) r := Ev.bind h (Ev.congr (fun _ => if_pos rfl) k)
theorem Ev.bindF {β : Type} {g : Nat → Option Bool} {f1 f2 : Nat → Option β} {r : β} (h : Ev g false) (k : Ev f2 r) : Ev (fun n => (g n).bind fun t => if t = true then f1 n else f2 n) r := Ev.bind h (Ev.congr (fun _ => if_neg (by simp)) k)
abbrev Rd := S61
abbrev Wr := S46
abbrev Cm := S32
def rk (r : List Rd) : List ByteArray := r.map (·.f0)
def wk (w : List Wr) : List ByteArray := w.map (·.f0)
theorem rdR (r : List Rd) (i : Nat) (h : i < r.length) : rd_T61 r (i : Int) = r[i] := by unfold rd_T61; rw [Int.toNat_natCast]; simp [List.getD_eq_getElem?_getD, h]
theorem rdW (w : List Wr) (i : Nat) (h : i < w.length) : rd_T46 w (i : Int) = w[i] := by unfold rd_T46; rw [Int.toNat_natCast]; simp [List.getD_eq_getElem?_getD, h]
theorem rdC (l : List Cm) (i : Nat) (h : i < l.length) : rd_T32 l (i : Int) = l[i] := by unfold rd_T32; rw [Int.toNat_natCast]; simp [List.getD_eq_getElem?_getD, h]
/-- A command that is gone through. -/
def small (r : List Rd) (w : List Wr) : Prop := r.length ≤ 20 ∧ w.length ≤ 20 ∧ (∀ x ∈ r, x.f0.size ≤ 100) ∧ ∀ x ∈ w, x.f0.size ≤ 100 ∧ x.f1.size ≤ 100
theorem rk_few {r : List Rd} {w : List Wr} (h : small r w) : few (rk r) := ⟨by unfold rk; rw [List.length_map]; have := h.1; omega, fun x hx => by
  unfold rk at hx
  obtain ⟨y, hy, rfl⟩ := List.mem_map.1 hx
  exact h.2.2.1 y hy⟩
theorem wk_few {r : List Rd} {w : List Wr} (h : small r w) : few (wk w) := ⟨by unfold wk; rw [List.length_map]; have := h.2.1; omega, fun x hx => by
  unfold wk at hx
  obtain ⟨y, hy, rfl⟩ := List.mem_map.1 hx
  exact (h.2.2.2 y hy).1⟩
theorem read_l0 (r : List Rd) (hl : r.length ≤ 2000) : ∀ d i, i + d = r.length → Ev (fun k => command_read.l0 k (rk (r.take i)) r (r.length : Int) (i : Int)) (rk r)
  | 0, i, h => by
    refine Ev.step (f := fun _ => some (rk (r.take i))) (fun k => ?_) (Ev.const ?_)
    · simp only [command_read.l0]; rw [if_neg (by omega)]
    · rw [show i = r.length by omega, List.take_length]
  | d + 1, i, h => by
    have hi : i < r.length := by omega
    refine Ev.step (fun k => ?_) (read_l0 r hl d (i + 1) (by omega))
    simp only [command_read.l0]
    rw [if_pos (by omega), if_pos (by omega), if_pos (by omega), if_pos (by unfold rk; rw [List.length_map, List.length_take]; omega), rdR r i hi, w1 i (by omega), List.take_succ_eq_append_getElem hi]
    unfold rk
    rw [List.map_append]; rfl
theorem written_l0 (r : List Wr) (hl : r.length ≤ 2000) : ∀ d i, i + d = r.length → Ev (fun k => command_written.l0 k (wk (r.take i)) r (r.length : Int) (i : Int)) (wk r)
  | 0, i, h => by
    refine Ev.step (f := fun _ => some (wk (r.take i))) (fun k => ?_) (Ev.const ?_)
    · simp only [command_written.l0]; rw [if_neg (by omega)]
    · rw [show i = r.length by omega, List.take_length]
  | d + 1, i, h => by
    have hi : i < r.length := by omega
    refine Ev.step (fun k => ?_) (written_l0 r hl d (i + 1) (by omega))
    simp only [command_written.l0]
    rw [if_pos (by omega), if_pos (by omega), if_pos (by omega), if_pos (by unfold wk; rw [List.length_map, List.length_take]; omega), rdW r i hi, w1 i (by omega), List.take_succ_eq_append_getElem hi]
    unfold wk
    rw [List.map_append]; rfl
section
variable (a b c d e s : Int) (r : List Rd) (w : List Wr) (m : Bool) (a' b' c' d' e' s' : Int) (r' : List Rd) (w' : List Wr) (m' : Bool)
theorem read_is (hl : r.length ≤ 2000) : Ev (fun k => command_read.f k a b c d e s r w m) (rk r) := read_l0 r hl r.length 0 (by omega)
theorem written_is (hl : w.length ≤ 2000) : Ev (fun k => command_written.f k a b c d e s r w m) (wk w) := written_l0 w hl w.length 0 (by omega)
/-- A command's keys. -/
def keysB : List ByteArray := joinB (rk r) (wk w)
theorem keys_is (h : small r w) : Ev (fun k => command_Keys.f k a b c d e s r w m) (keysB r w) := by
  refine Ev.bind (read_is a b c d e s r w m (by have := h.1; omega)) (Ev.bind (written_is a b c d e s r w m (by have := h.2.1; omega)) (Ev.bind (Ev.const (join_f (few_big (rk_few h)) (few_big (wk_few h)))) (Ev.const rfl)))
/-- Do two commands interfere? -/
def interB (a b c : Int) (r : List Rd) (w : List Wr) (a' b' c' : Int) (r' : List Rd) (w' : List Wr) : Bool := !(decide (a = 0) || decide (a' = 0)) && ((b == b' && (c == c')) || meetB (keysB r w) (keysB r' w'))
theorem inter_j0 (h : small r w) (h' : small r' w') (x : Bool) : Ev (fun k => command_Interfere.j0 k x a b c d e s r w m a' b' c' d' e' s' r' w' m') (!x && ((b == b' && (c == c')) || meetB (keysB r w) (keysB r' w'))) := by
  cases x with
  | true =>
    refine Ev.step (f := fun _ => some false) (fun k => ?_) (Ev.const rfl)
    simp only [command_Interfere.j0]; rw [if_pos trivial]
  | false =>
    cases hx : (b == b' && (c == c')) with
    | true =>
      refine Ev.step (f := fun _ => some true) (fun k => ?_) (Ev.const rfl)
      simp only [command_Interfere.j0]; rw [if_neg (by simp), if_pos hx]
    | false =>
      have hM : Ev (fun k => (command_Keys.f k a b c d e s r w m).bind fun t130 => (command_Keys.f k a' b' c' d' e' s' r' w' m').bind fun t133 => (keys_Meet.f t130 t133).bind fun t136 => some t136) (meetB (keysB r w) (keysB r' w')) := Ev.bind (keys_is a b c d e s r w m h) (Ev.bind (keys_is a' b' c' d' e' s' r' w' m' h') (Ev.const rfl))
      rw [Bool.not_false, Bool.true_and, Bool.false_or]
      refine Ev.step (fun k => ?_) hM
      simp only [command_Interfere.j0]; rw [if_neg (by simp), if_neg (by simp [hx])]
theorem inter_is (h : small r w) (h' : small r' w') : Ev (fun k => command_Interfere.f k a b c d e s r w m a' b' c' d' e' s' r' w' m') (interB a b c r w a' b' c' r' w') := by
  unfold interB command_Interfere.f
  by_cases ha : a = 0
  · simp only [ha, ↓reduceIte, decide_true, Bool.true_or]
    exact inter_j0 0 b c d e s r w m a' b' c' d' e' s' r' w' m' h h' true
  · simp only [ha, ↓reduceIte, decide_false, Bool.false_or]
    exact inter_j0 a b c d e s r w m a' b' c' d' e' s' r' w' m' h h' (a' == 0)
end
theorem meetB_iff (l m : List ByteArray) : meetB l m = true ↔ ∃ x, x ∈ l ∧ x ∈ m := by
  unfold meetB
  rw [List.any_eq_true]
  simp only [inB_iff]
end Go.Proofs.Ytklbmdakoeoplaa.Strs
end
section
namespace Go.Proofs.Ytklbmdakoeoplaa.X
open Go.RowKit Go.Proofs.YtklbmdakoeoplaaW.PrintWords Go.Proofs.YtklbmdakoeoplaaW.PrintLast Go.Proofs.YtklbmdakoeoplaaW.PrintMore
attribute [local go_sem] max2_int min2_int max_two min_two max_three min_three max_four min_four   -- for this text's walks alone
set_option linter.unusedVariables false
set_option linter.unusedSimpArgs false
/-! ### command_Clone: function 33 -/
def command_Clone.f (a0_0 : Int) (a0_1 : Int) (a0_2 : Int) (a0_3 : Int) (a0_4 : Int) (a0_5 : Int) (l0_6 : List (S61)) (l0_7 : List (S46)) (a0_8 : Bool) : Option (Int × Int × Int × Int × Int × Int × (List (S61)) × (List (S46)) × Bool) := (some (([] : List (S61)) : List (S61))).bind fun y206 => (if y206.length + l0_6.length < 4398046511104 then ((some (([] : List (S46)) : List (S46))).bind fun y212 => (if y212.length + l0_7.length < 4398046511104 then (some (a0_0, a0_1, a0_2, a0_3, a0_4, a0_5, (y206 ++ l0_6), (y212 ++ l0_7), a0_8)) else (none))) else (none))
def command_Clone.T1 : Bool × List (List Nat × List Nat) := (true, [([], []), ([], []), ([1], [1]), ([0, 2], [0, 2]), ([], []), ([], []), ([5], [5]), ([4, 6, 3], [4, 6]), ([0, 1, 2, 3, 5, 6], []), ([8, 3, 7, 0, 1, 2, 3, 5, 6], [3, 8]), ([0, 1, 2, 3, 4, 5, 6, 7, 8, 9], []), ([10, 7, 9, 0, 1, 2, 3, 4, 5, 6, 7, 8, 9], [7, 10])])
def command_Clone.B1 : List Nat := [0, 0, 2, 7, 0, 0, 32, 127, 111, 511, 1023, 2047]
theorem command_Clone.tab1 : rtab .any (opsOf Try.f33 1) = command_Clone.T1 := by kernel_rfl
theorem command_Clone.bits1 : waitsOk command_Clone.T1.2 command_Clone.B1 = true := by kernel_rfl
set_option maxHeartbeats 8000000 in
set_option maxRecDepth 100000 in
theorem command_Clone.calls (a0_0 : Int) (a0_1 : Int) (a0_2 : Int) (a0_3 : Int) (a0_4 : Int) (a0_5 : Int) (A0_6 : Option Addr) (c0_6 : Nat) (l0_6 : List (S61)) (A0_7 : Option Addr) (c0_7 : Nat) (l0_7 : List (S46)) (a0_8 : Bool) (r1 : Int) (r2 : Int) (r3 : Int) (r4 : Int) (r5 : Int) (r6 : Int) (r7 : List (S61)) (r8 : List (S46)) (r9 : Bool) (w : World) (hr0_6 : Kd.C k61 w A0_6 l0_6.length l0_6) (hc0_6 : l0_6.length ≤ c0_6) (hr0_7 : Kd.C k46 w A0_7 l0_7.length l0_7) (hc0_7 : l0_7.length ≤ c0_7) (h : command_Clone.f a0_0 a0_1 a0_2 a0_3 a0_4 a0_5 l0_6 l0_7 a0_8 = some (r1, r2, r3, r4, r5, r6, r7, r8, r9)) :
 Calls Try.prog 33 #[.agg #[.int .i64 a0_0, .int .i64 a0_1, .int .i64 a0_2, .int .i64 a0_3, .int .i64 a0_4, .int .i64 a0_5, .slice A0_6 l0_6.length c0_6, .slice A0_7 l0_7.length c0_7, .bool a0_8]] w fun e w' => ∃ v6_ v7_ : Value, e = .returned (.agg #[.int .i64 r1, .int .i64 r2, .int .i64 r3, .int .i64 r4, .int .i64 r5, .int .i64 r6, v6_, v7_, .bool r9]) ∧ Kd.R k61 61 w' w.heap.size (fun _ => True) v6_ r7 ∧ Kd.R k46 46 w' w.heap.size (fun _ => True) v7_ r8 ∧ Below w.heap.size w w' := by
 have hu32 := Try.underlying32
 have HR0_6 := Aside0.mk hr0_6
 have HC0_6 := Aside0.mk hc0_6
 clear hr0_6 hc0_6
 have HR0_7 := Aside0.mk hr0_7
 have HC0_7 := Aside0.mk hc0_7
 clear hr0_7 hc0_7
 have HB := Aside0.mk (Below.refl w.heap.size w)
 have H : ((some (([] : List (S61)) : List (S61))).bind fun y206 => (if y206.length + l0_6.length < 4398046511104 then ((some (([] : List (S46)) : List (S46))).bind fun y212 => (if y212.length + l0_7.length < 4398046511104 then (some (a0_0, a0_1, a0_2, a0_3, a0_4, a0_5, (y206 ++ l0_6), (y212 ++ l0_7), a0_8)) else (none))) else (none))) = some (r1, r2, r3, r4, r5, r6, r7, r8, r9) := h
 clear h
 obtain ⟨y206, hy206⟩ : ∃ y_ : List (S61), y_ = (([] : List (S61))) := ⟨_, rfl⟩
 replace H : (if y206.length + l0_6.length < 4398046511104 then ((some (([] : List (S46)) : List (S46))).bind fun y212 => (if y212.length + l0_7.length < 4398046511104 then (some (a0_0, a0_1, a0_2, a0_3, a0_4, a0_5, (y206 ++ l0_6), (y212 ++ l0_7), a0_8)) else (none))) else (none)) = some (r1, r2, r3, r4, r5, r6, r7, r8, r9) := by first | (rw [hy206]; with_reducible exact H) | (have H2_ := (Option.bind_some _ _).symm.trans H; rw [hy206]; with_reducible exact H2_) | (have H2_ := (Option.bind_some _ _).symm.trans H; with_reducible exact H2_) | with_reducible exact H | (rw [hy206]; exact H) | exact H
 have Ny206 := Aside0.mk hy206
 clear hy206
 by_cases c2 : y206.length + l0_6.length < 4398046511104
 · rw [if_pos c2] at H
   have LMc2 := Aside0.mk c2
   clear c2
   obtain ⟨y209, hy209⟩ : ∃ y_ : List (S61), y_ = (y206 ++ l0_6) := ⟨_, rfl⟩
   replace H : ((some (([] : List (S46)) : List (S46))).bind fun y212 => (if y212.length + l0_7.length < 4398046511104 then (some (a0_0, a0_1, a0_2, a0_3, a0_4, a0_5, y209, (y212 ++ l0_7), a0_8)) else (none))) = some (r1, r2, r3, r4, r5, r6, r7, r8, r9) := by first | (rw [hy209]; with_reducible exact H) | (have H2_ := (Option.bind_some _ _).symm.trans H; rw [hy209]; with_reducible exact H2_) | (have H2_ := (Option.bind_some _ _).symm.trans H; with_reducible exact H2_) | with_reducible exact H | (rw [hy209]; exact H) | exact H
   have Ny209 := Aside0.mk hy209
   clear hy209
   obtain ⟨y212, hy212⟩ : ∃ y_ : List (S46), y_ = (([] : List (S46))) := ⟨_, rfl⟩
   replace H : (if y212.length + l0_7.length < 4398046511104 then (some (a0_0, a0_1, a0_2, a0_3, a0_4, a0_5, y209, (y212 ++ l0_7), a0_8)) else (none)) = some (r1, r2, r3, r4, r5, r6, r7, r8, r9) := by first | (rw [hy212]; with_reducible exact H) | (have H2_ := (Option.bind_some _ _).symm.trans H; rw [hy212]; with_reducible exact H2_) | (have H2_ := (Option.bind_some _ _).symm.trans H; with_reducible exact H2_) | with_reducible exact H | (rw [hy212]; exact H) | exact H
   have Ny212 := Aside0.mk hy212
   clear hy212
   by_cases c3 : y212.length + l0_7.length < 4398046511104
   · rw [if_pos c3] at H
     have LMc3 := Aside0.mk c3
     clear c3
     obtain ⟨y215, hy215⟩ : ∃ y_ : List (S46), y_ = (y212 ++ l0_7) := ⟨_, rfl⟩
     replace H : (some (a0_0, a0_1, a0_2, a0_3, a0_4, a0_5, y209, y215, a0_8)) = some (r1, r2, r3, r4, r5, r6, r7, r8, r9) := by first | (rw [hy215]; with_reducible exact H) | (have H2_ := (Option.bind_some _ _).symm.trans H; rw [hy215]; with_reducible exact H2_) | (have H2_ := (Option.bind_some _ _).symm.trans H; with_reducible exact H2_) | with_reducible exact H | (rw [hy215]; exact H) | exact H
     have Ny215 := Aside0.mk hy215
     clear hy215
     simp only [Option.some.injEq, Prod.mk.injEq] at H
     obtain ⟨rfl, rfl, rfl, rfl, rfl, rfl, rfl, rfl, rfl⟩ := H
     go_enter Try.func33, Try.ntmps33
     try go_wp2_with (first | ((with_reducible refine gate_dst (N := 1) rfl ?_); refine box_event ?hg (N := 1) ?hd (cs := #[.int .i64 a0_0, .int .i64 a0_1, .int .i64 a0_2, .int .i64 a0_3, .int .i64 a0_4, .int .i64 a0_5, .slice A0_6 l0_6.length c0_6, .slice A0_7 l0_7.length c0_7, .bool a0_8]) (t := 32) ?hr ?_; (case hd => rfl); (case hg => rfl); (case hr => first | (go_simp; done) | (go_simp; rfl)); intro gb204 hg w4 hbox hb; have n0_ := Aside0.mk (below_step lb_ hb); have n1_ := Aside0.mk (hbox); have n2_ := Aside0.mk ((by rw [hg]; exact (below_size lb_) : w.heap.size ≤ gb204)); have n3_ := Aside0.mk ((by rw [hg]; exact (below_size lb_) : w.heap.size ≤ gb204)); clear HB; have HB := n0_; have BK204 := n1_; have GW204 := n2_; have GE204 := n3_; clear n0_ n1_ n2_ n3_; clear hb hbox hg) | ((with_reducible refine gate_dst (N := 2) rfl ?_); refine box_event ?hg (N := 2) ?hd (cs := #[.int .i64 0, .int .i64 0, .int .i64 0, .int .i64 0, .int .i64 0, .int .i64 0, .slice none 0 0, .slice none 0 0, .bool false]) (t := 32) ?hr ?_; (case hd => rfl); (case hg => rfl); (case hr => first | (go_simp; done) | (go_simp; rfl)); intro gb205 hg w5 hbox hb; have n0_ := Aside0.mk (blk_below (kb_ BK204.out) hb); have n1_ := Aside0.mk (below_step (by repeat (first | (with_reducible first | exact HB.out | apply below_alloc | apply pw_below_drewN | apply below_drew1 | refine below_set ?_ GE204.out) | exact HB.out)) hb); have n2_ := Aside0.mk (hbox); have n3_ := Aside0.mk ((by rw [hg]; exact (below_size (by repeat (first | (with_reducible first | exact HB.out | apply below_alloc | apply pw_below_drewN | apply below_drew1 | refine below_set ?_ GE204.out) | exact HB.out))) : w.heap.size ≤ gb205)); have n4_ := Aside0.mk ((by rw [hg]; exact (below_size (by repeat (first | (with_reducible first | exact HB.out | apply below_alloc | apply pw_below_drewN | apply below_drew1 | refine below_set ?_ GE204.out) | exact HB.out))) : w.heap.size ≤ gb205)); have n5_ := Aside0.mk ((by rw [hg]; exact Nat.ne_of_lt (blk_lt (kb_ BK204.out)) : gb204 ≠ gb205)); have n6_ := Aside0.mk ((by rw [hg]; exact Nat.ne_of_gt (blk_lt (kb_ BK204.out)) : gb205 ≠ gb204)); clear BK204; clear HB; have BK204 := n0_; have HB := n1_; have BK205 := n2_; have GW205 := n3_; have GE205 := n4_; have NB204_205 := n5_; have NB205_204 := n6_; clear n0_ n1_ n2_ n3_ n4_ n5_ n6_; clear hb hbox hg))
     have n0_ := Aside0.mk (blk_drew BK204.out)
     have n1_ := Aside0.mk (blk_drew BK205.out)
     have n2_ := Aside0.mk (below_drew1 HB.out)
     clear BK204
     clear BK205
     clear HB
     have BK204 := n0_
     have BK205 := n1_
     have HB := n2_
     clear n0_ n1_ n2_
     refine start_ (n := 12) (S := fun w' => w'.heap[gb204]? = some (.cells #[.int .i64 a0_0, .int .i64 a0_1, .int .i64 a0_2, .int .i64 a0_3, .int .i64 a0_4, .int .i64 a0_5, .slice A0_6 l0_6.length c0_6, .slice A0_7 l0_7.length c0_7, .bool a0_8] 32 (0, 0))) (ds := [9, 11]) #[false, false, false, false, false, false, false, false, false, false, false, false] (by kernel_rfl) rfl rfl BK204.out (fun hHeld => ?_); refine with_tabW command_Clone.tab1 command_Clone.bits1 (fun HT_ HW_ => ?_)
     generalize w5.drew = w6 at BK204 BK205 HB hHeld ⊢
     refine pure_ (i := 1) (N := some 4) (v := ?_) (a' := ?_) #[false, true, false, false, false, false, false, false, false, false, false, false] rfl rfl (any_of HT_.out (by kernel_rfl)) (fun _ _ _ h => h) (Or.inl ⟨by rfl, ?_⟩) ?_ ?_
     rotate_left
     · intro w'
       go_simp
       with_reducible rfl
     rotate_left
     · simp only [Act.put, List.setIfInBounds_toArray, List.set_cons_zero, List.set_cons_succ, i64_w, i32_w]
       rfl
     refine pure_ (i := 5) (N := some 8) (v := ?_) (a' := ?_) #[false, true, false, false, false, true, false, false, false, false, false, false] rfl rfl (any_of HT_.out (by kernel_rfl)) (fun _ _ _ h => h) (Or.inl ⟨by rfl, ?_⟩) ?_ ?_
     rotate_left
     · intro w'
       go_simp
       with_reducible rfl
     rotate_left
     · simp only [Act.put, List.setIfInBounds_toArray, List.set_cons_zero, List.set_cons_succ, i64_w, i32_w]
       rfl
     refine take_ (i := 2) (N := some 5) (v := ?_) (a' := ?_) #[false, true, true, false, false, true, false, false, false, false, false, false] rfl rfl (take_ofW HT_.out HW_.out (by kernel_rfl)) (fun _ _ _ h => h) (Or.inl ⟨by rfl, ?_⟩) hHeld ?_ ?_
     rotate_left
     · rintro w' s0
       first | (refine blk_yield2 (T := 32) s0 ?_ ⟨_, Try.underlying32, rfl⟩ ?_; exact ⟨rfl, rfl⟩; kernel_rfl) | (refine blk9_ s0 fun _ _ _ _ _ _ _ _ _ _ _ _ _ _ _ _ _ _ => ?_; go_simp; with_reducible rfl)
     rotate_left
     · simp only [Act.put, List.setIfInBounds_toArray, List.set_cons_zero, List.set_cons_succ, i64_w, i32_w]
       rfl
     refine take_ (i := 6) (N := some 9) (v := ?_) (a' := ?_) #[false, true, true, false, false, true, true, false, false, false, false, false] rfl rfl (take_ofW HT_.out HW_.out (by kernel_rfl)) (fun _ _ _ h => h) (Or.inl ⟨by rfl, ?_⟩) hHeld ?_ ?_
     rotate_left
     · rintro w' s0
       first | (refine blk_yield2 (T := 32) s0 ?_ ⟨_, Try.underlying32, rfl⟩ ?_; exact ⟨rfl, rfl⟩; kernel_rfl) | (refine blk9_ s0 fun _ _ _ _ _ _ _ _ _ _ _ _ _ _ _ _ _ _ => ?_; go_simp; with_reducible rfl)
     rotate_left
     · simp only [Act.put, List.setIfInBounds_toArray, List.set_cons_zero, List.set_cons_succ, i64_w, i32_w]
       rfl
     refine join_ (σ := Value × Value × Value) 4 #[true, true, true, true, true, true, true, false, true, false, false, false] (fun s_ => [(3, s_.1), (6, s_.2.1), (7, s_.2.2), (11, .pointer (some ⟨gb204, 6, none⟩))]) (fun s_ w' => (w'.heap[gb204]? = some (.cells #[.int .i64 a0_0, .int .i64 a0_1, .int .i64 a0_2, .int .i64 a0_3, .int .i64 a0_4, .int .i64 a0_5, .slice A0_6 l0_6.length c0_6, .slice A0_7 l0_7.length c0_7, .bool a0_8] 32 (0, 0))) ∧ (Kd.R k61 61 w' w.heap.size (fun _ => True) s_.2.1 y209) ∧ (Kd.R k46 46 w' w.heap.size (fun _ => True) s_.2.2 y212) ∧ (w'.heap[gb204]? = some (.cells #[.int .i64 a0_0, .int .i64 a0_1, .int .i64 a0_2, .int .i64 a0_3, .int .i64 a0_4, .int .i64 a0_5, .slice A0_6 l0_6.length c0_6, .slice A0_7 l0_7.length c0_7, .bool a0_8] 32 (0, 0))) ∧ (w'.heap[gb205]? = some (.cells #[.int .i64 0, .int .i64 0, .int .i64 0, .int .i64 0, .int .i64 0, .int .i64 0, .slice none 0 0, .slice none 0 0, .bool false] 32 (0, 0))) ∧ (Below w.heap.size w w')) ?_ ?_
     rotate_left
     · intro hCont
       refine two_ (i := 0) (j := 4) (Ni := some 3) (Nj := some 7) #[true, true, true, false, false, true, true, false, false, false, false, false] #[false, true, true, false, true, true, true, false, false, false, false, false] rfl rfl rfl rfl (two_of HT_.out (by kernel_rfl)) (by decide) (by decide) (fun K hK => ?_) (fun K hK => ?_)
       · skip
         refine Kd.R_lit_step k61 _ 61 ?hg (N := 3) ?hd (xs := ([] : List (S61))) (inner := []) (ok := fun _ => True) (okp := fun _ => True) ?hr ?hp (fun _ hk => hk) trivial (Below.refl _ _) (Nat.le_refl _) (by simp) ?_; (case hd => rfl); (case hg => rfl); (case hr => first | (go_simp; done) | (go_simp; rfl)); (case hp => exact (Reps.none _ _))
         intro v207 w7 ho8 hb hg_ hnew_
         clear hg_ hnew_
         (first | rw [← Ny206.out] at ho8 | (simp only [Int.reduceToNat] at ho8; rw [← Ny206.out] at ho8))
         have n0_ := Aside0.mk (Kd.R_lower ho8 (below_size (by repeat (first | (with_reducible first | exact HB.out | apply below_alloc | apply pw_below_drewN | apply below_drew1 | refine below_set ?_ GE204.out | refine below_set ?_ GE205.out) | exact HB.out))))
         have n1_ := Aside0.mk (blk_below (kb_ BK204.out) hb)
         have n2_ := Aside0.mk (blk_below (kb_ BK205.out) hb)
         have n3_ := Aside0.mk (below_step (by repeat (first | (with_reducible first | exact HB.out | apply below_alloc | apply pw_below_drewN | apply below_drew1 | refine below_set ?_ GE204.out | refine below_set ?_ GE205.out) | exact HB.out)) hb)
         clear BK204
         clear BK205
         clear HB
         have HO208 := n0_
         have BK204 := n1_
         have BK205 := n2_
         have HB := n3_
         clear n0_ n1_ n2_ n3_
         clear hb ho8
         refine hK.out _ _ BK204.out (fun hHeld => ?_)
         clear hK K
         refine norm_ (a' := ?_) ?_ ?_
         rotate_left
         · show Act.put _ (some 3) _ = _
           simp only [Act.put, List.setIfInBounds_toArray, List.set_cons_zero, List.set_cons_succ, i64_w, i32_w]
           rfl
         refine two_ (i := 3) (j := 4) (Ni := some 6) (Nj := some 7) #[true, true, true, true, false, true, true, false, false, false, false, false] #[true, true, true, false, true, true, true, false, false, false, false, false] rfl rfl rfl rfl (two_of HT_.out (by kernel_rfl)) (by decide) (by decide) (fun K hK => ?_) (fun K hK => ?_)
         · skip
           refine Kd.R_append_rows_step k61 (w0 := w) w.heap.size (by rfl) (.tmp 3) (.tmp 5) 29 61 (.agg #[(.string ⟨#[]⟩), (.int .i64 0), (.int .i64 0)]) 32 rfl Try.underlying29 info61 rfl (by decide) (by omega) v207 y206 l0_6 _ _ _ (fun _ => True) (fun _ => False) rfl rfl ?aO ?aR (fun _ _ h => h) (fun _ h => h.elim) ?aF ?aB ?aS ?aL ?_
           (case aR => repeat (first | exact (Kd.C_below HR0_6.out HB.out) | (with_reducible refine Kd.C_alloc ?_ _) | (with_reducible refine Kd.C_drewN ?_ _) | (with_reducible refine Kd.C_drew ?_)))
           (case aB => exact (by repeat (first | (with_reducible first | exact HB.out | apply below_alloc | apply pw_below_drewN | apply below_drew1 | refine below_set ?_ GE204.out | refine below_set ?_ GE205.out) | exact HB.out)))
           (case aF => exact (fun _ _ => trivial))
           (case aO => exact (kr_ HO208.out))
           (case aS => exact (below_size (by repeat (first | (with_reducible first | exact HB.out | apply below_alloc | apply pw_below_drewN | apply below_drew1 | refine below_set ?_ GE204.out | refine below_set ?_ GE205.out) | exact HB.out))))
           (case aL => have := LMc2.out; omega)
           intro v210 w9 ho hb hg hat
           rw [← Ny209.out] at ho
           have n0_ := Aside0.mk (blk_grown (kb_ BK204.out) hg (Kd.R_ne HO208.out BK204.out (by decide)))
           have n1_ := Aside0.mk (blk_grown (kb_ BK205.out) hg (Kd.R_ne HO208.out BK205.out (by decide)))
           have n2_ := Aside0.mk (hb)
           have n3_ := Aside0.mk (ho)
           clear BK204
           clear BK205
           clear HB
           clear HO208
           have BK204 := n0_
           have BK205 := n1_
           have HB := n2_
           have HO211 := n3_
           clear n0_ n1_ n2_ n3_
           clear ho hb hg hat
           refine hK.out _ _ BK204.out (fun hHeld => ?_)
           clear hK K
           refine norm_ (a' := ?_) ?_ ?_
           rotate_left
           · show Act.put _ (some 6) _ = _
             simp only [Act.put, List.setIfInBounds_toArray, List.set_cons_zero, List.set_cons_succ, i64_w, i32_w]
             rfl
           refine pure_ (i := 8) (N := some 11) (v := ?_) (a' := ?_) #[true, true, true, true, false, true, true, false, true, false, false, false] rfl rfl (any_of HT_.out (by kernel_rfl)) (fun _ _ _ h => h) (Or.inl ⟨by rfl, ?_⟩) ?_ ?_
           rotate_left
           · intro w'
             go_simp
             with_reducible rfl
           rotate_left
           · simp only [Act.put, List.setIfInBounds_toArray, List.set_cons_zero, List.set_cons_succ, i64_w, i32_w]
             rfl
           refine one_ (i := 4) (N := some 7) #[true, true, true, true, true, true, true, false, true, false, false, false] rfl rfl (one_of HT_.out (by kernel_rfl)) (by decide) (fun K hK => ?_)
           refine Kd.R_lit_step k46 _ 46 ?hg (N := 7) ?hd (xs := ([] : List (S46))) (inner := []) (ok := fun _ => True) (okp := fun _ => True) ?hr ?hp (fun _ hk => hk) trivial (Below.refl _ _) (Nat.le_refl _) (by simp) ?_; (case hd => rfl); (case hg => rfl); (case hr => first | (go_simp; done) | (go_simp; rfl)); (case hp => exact (Reps.none _ _))
           intro v213 w10 ho11 hb hg_ hnew_
           clear hg_ hnew_
           (first | rw [← Ny212.out] at ho11 | (simp only [Int.reduceToNat] at ho11; rw [← Ny212.out] at ho11))
           have n0_ := Aside0.mk (Kd.R_below (kr_ HO211.out) hb)
           have n1_ := Aside0.mk (Kd.R_lower ho11 (below_size (by repeat (first | (with_reducible first | exact HB.out | apply below_alloc | apply pw_below_drewN | apply below_drew1 | refine below_set ?_ GE204.out | refine below_set ?_ GE205.out) | exact HB.out))))
           have n2_ := Aside0.mk (blk_below (kb_ BK204.out) hb)
           have n3_ := Aside0.mk (blk_below (kb_ BK205.out) hb)
           have n4_ := Aside0.mk (below_step (by repeat (first | (with_reducible first | exact HB.out | apply below_alloc | apply pw_below_drewN | apply below_drew1 | refine below_set ?_ GE204.out | refine below_set ?_ GE205.out) | exact HB.out)) hb)
           clear HO211
           clear BK204
           clear BK205
           clear HB
           have HO211 := n0_
           have HO214 := n1_
           have BK204 := n2_
           have BK205 := n3_
           have HB := n4_
           clear n0_ n1_ n2_ n3_ n4_
           clear hb ho11
           refine hK.out _ _ BK204.out (fun hHeld => ?_)
           clear hK K
           refine norm_ (a' := ?_) ?_ ?_
           rotate_left
           · show Act.put _ (some 7) _ = _
             simp only [Act.put, List.setIfInBounds_toArray, List.set_cons_zero, List.set_cons_succ, i64_w, i32_w]
             rfl
           exact norm_ (by simp only [putAll, Act.put, List.setIfInBounds_toArray, List.set_cons_zero, List.set_cons_succ]) (hCont (v207, v210, v213) _ ⟨hHeld, (kr_ HO211.out), (kr_ HO214.out), (kb_ BK204.out), (kb_ BK205.out), (by repeat (first | (with_reducible first | exact HB.out | apply below_alloc | apply pw_below_drewN | apply below_drew1 | refine below_set ?_ GE204.out | refine below_set ?_ GE205.out) | exact HB.out))⟩)
         · skip
           refine Kd.R_lit_step k46 _ 46 ?hg (N := 7) ?hd (xs := ([] : List (S46))) (inner := []) (ok := fun _ => True) (okp := fun _ => True) ?hr ?hp (fun _ hk => hk) trivial (Below.refl _ _) (Nat.le_refl _) (by simp) ?_; (case hd => rfl); (case hg => rfl); (case hr => first | (go_simp; done) | (go_simp; rfl)); (case hp => exact (Reps.none _ _))
           intro v213 w9 ho10 hb hg_ hnew_
           clear hg_ hnew_
           (first | rw [← Ny212.out] at ho10 | (simp only [Int.reduceToNat] at ho10; rw [← Ny212.out] at ho10))
           have n0_ := Aside0.mk (Kd.R_below (kr_ HO208.out) hb)
           have n1_ := Aside0.mk (Kd.R_lower ho10 (below_size (by repeat (first | (with_reducible first | exact HB.out | apply below_alloc | apply pw_below_drewN | apply below_drew1 | refine below_set ?_ GE204.out | refine below_set ?_ GE205.out) | exact HB.out))))
           have n2_ := Aside0.mk (blk_below (kb_ BK204.out) hb)
           have n3_ := Aside0.mk (blk_below (kb_ BK205.out) hb)
           have n4_ := Aside0.mk (below_step (by repeat (first | (with_reducible first | exact HB.out | apply below_alloc | apply pw_below_drewN | apply below_drew1 | refine below_set ?_ GE204.out | refine below_set ?_ GE205.out) | exact HB.out)) hb)
           clear HO208
           clear BK204
           clear BK205
           clear HB
           have HO208 := n0_
           have HO214 := n1_
           have BK204 := n2_
           have BK205 := n3_
           have HB := n4_
           clear n0_ n1_ n2_ n3_ n4_
           clear hb ho10
           refine hK.out _ _ BK204.out (fun hHeld => ?_)
           clear hK K
           refine norm_ (a' := ?_) ?_ ?_
           rotate_left
           · show Act.put _ (some 7) _ = _
             simp only [Act.put, List.setIfInBounds_toArray, List.set_cons_zero, List.set_cons_succ, i64_w, i32_w]
             rfl
           refine one_ (i := 3) (N := some 6) #[true, true, true, true, true, true, true, false, false, false, false, false] rfl rfl (one_of HT_.out (by kernel_rfl)) (by decide) (fun K hK => ?_)
           refine Kd.R_append_rows_step k61 (w0 := w) w.heap.size (by rfl) (.tmp 3) (.tmp 5) 29 61 (.agg #[(.string ⟨#[]⟩), (.int .i64 0), (.int .i64 0)]) 32 rfl Try.underlying29 info61 rfl (by decide) (by omega) v207 y206 l0_6 _ _ _ (fun _ => True) (fun _ => False) rfl rfl ?aO ?aR (fun _ _ h => h) (fun _ h => h.elim) ?aF ?aB ?aS ?aL ?_
           (case aR => repeat (first | exact (Kd.C_below HR0_6.out HB.out) | (with_reducible refine Kd.C_alloc ?_ _) | (with_reducible refine Kd.C_drewN ?_ _) | (with_reducible refine Kd.C_drew ?_)))
           (case aB => exact (by repeat (first | (with_reducible first | exact HB.out | apply below_alloc | apply pw_below_drewN | apply below_drew1 | refine below_set ?_ GE204.out | refine below_set ?_ GE205.out) | exact HB.out)))
           (case aF => exact (fun _ _ => trivial))
           (case aO => exact (kr_ HO208.out))
           (case aS => exact (below_size (by repeat (first | (with_reducible first | exact HB.out | apply below_alloc | apply pw_below_drewN | apply below_drew1 | refine below_set ?_ GE204.out | refine below_set ?_ GE205.out) | exact HB.out))))
           (case aL => have := LMc2.out; omega)
           intro v210 w11 ho hb hg hat
           rw [← Ny209.out] at ho
           have n0_ := Aside0.mk (blk_grown (kb_ BK204.out) hg (Kd.R_ne HO208.out BK204.out (by decide)))
           have n1_ := Aside0.mk (blk_grown (kb_ BK205.out) hg (Kd.R_ne HO208.out BK205.out (by decide)))
           have n2_ := Aside0.mk (Kd.R_over' (kr_ HO214.out) (Kd.R_typed (kr_ HO208.out)) (by decide) hg)
           have n3_ := Aside0.mk (hb)
           have n4_ := Aside0.mk (ho)
           clear BK204
           clear BK205
           clear HO214
           clear HB
           clear HO208
           have BK204 := n0_
           have BK205 := n1_
           have HO214 := n2_
           have HB := n3_
           have HO211 := n4_
           clear n0_ n1_ n2_ n3_ n4_
           clear ho hb hg hat
           refine hK.out _ _ BK204.out (fun hHeld => ?_)
           clear hK K
           refine norm_ (a' := ?_) ?_ ?_
           rotate_left
           · show Act.put _ (some 6) _ = _
             simp only [Act.put, List.setIfInBounds_toArray, List.set_cons_zero, List.set_cons_succ, i64_w, i32_w]
             rfl
           refine pure_ (i := 8) (N := some 11) (v := ?_) (a' := ?_) #[true, true, true, true, true, true, true, false, true, false, false, false] rfl rfl (any_of HT_.out (by kernel_rfl)) (fun _ _ _ h => h) (Or.inl ⟨by rfl, ?_⟩) ?_ ?_
           rotate_left
           · intro w'
             go_simp
             with_reducible rfl
           rotate_left
           · simp only [Act.put, List.setIfInBounds_toArray, List.set_cons_zero, List.set_cons_succ, i64_w, i32_w]
             rfl
           exact norm_ (by simp only [putAll, Act.put, List.setIfInBounds_toArray, List.set_cons_zero, List.set_cons_succ]) (hCont (v207, v210, v213) _ ⟨hHeld, (kr_ HO211.out), (kr_ HO214.out), (kb_ BK204.out), (kb_ BK205.out), (by repeat (first | (with_reducible first | exact HB.out | apply below_alloc | apply pw_below_drewN | apply below_drew1 | refine below_set ?_ GE204.out | refine below_set ?_ GE205.out) | exact HB.out))⟩)
       · skip
         refine Kd.R_lit_step k46 _ 46 ?hg (N := 7) ?hd (xs := ([] : List (S46))) (inner := []) (ok := fun _ => True) (okp := fun _ => True) ?hr ?hp (fun _ hk => hk) trivial (Below.refl _ _) (Nat.le_refl _) (by simp) ?_; (case hd => rfl); (case hg => rfl); (case hr => first | (go_simp; done) | (go_simp; rfl)); (case hp => exact (Reps.none _ _))
         intro v213 w7 ho8 hb hg_ hnew_
         clear hg_ hnew_
         (first | rw [← Ny212.out] at ho8 | (simp only [Int.reduceToNat] at ho8; rw [← Ny212.out] at ho8))
         have n0_ := Aside0.mk (Kd.R_lower ho8 (below_size (by repeat (first | (with_reducible first | exact HB.out | apply below_alloc | apply pw_below_drewN | apply below_drew1 | refine below_set ?_ GE204.out | refine below_set ?_ GE205.out) | exact HB.out))))
         have n1_ := Aside0.mk (blk_below (kb_ BK204.out) hb)
         have n2_ := Aside0.mk (blk_below (kb_ BK205.out) hb)
         have n3_ := Aside0.mk (below_step (by repeat (first | (with_reducible first | exact HB.out | apply below_alloc | apply pw_below_drewN | apply below_drew1 | refine below_set ?_ GE204.out | refine below_set ?_ GE205.out) | exact HB.out)) hb)
         clear BK204
         clear BK205
         clear HB
         have HO214 := n0_
         have BK204 := n1_
         have BK205 := n2_
         have HB := n3_
         clear n0_ n1_ n2_ n3_
         clear hb ho8
         refine hK.out _ _ BK204.out (fun hHeld => ?_)
         clear hK K
         refine norm_ (a' := ?_) ?_ ?_
         rotate_left
         · show Act.put _ (some 7) _ = _
           simp only [Act.put, List.setIfInBounds_toArray, List.set_cons_zero, List.set_cons_succ, i64_w, i32_w]
           rfl
         refine one_ (i := 0) (N := some 3) #[true, true, true, false, true, true, true, false, false, false, false, false] rfl rfl (one_of HT_.out (by kernel_rfl)) (by decide) (fun K hK => ?_)
         refine Kd.R_lit_step k61 _ 61 ?hg (N := 3) ?hd (xs := ([] : List (S61))) (inner := []) (ok := fun _ => True) (okp := fun _ => True) ?hr ?hp (fun _ hk => hk) trivial (Below.refl _ _) (Nat.le_refl _) (by simp) ?_; (case hd => rfl); (case hg => rfl); (case hr => first | (go_simp; done) | (go_simp; rfl)); (case hp => exact (Reps.none _ _))
         intro v207 w9 ho10 hb hg_ hnew_
         clear hg_ hnew_
         (first | rw [← Ny206.out] at ho10 | (simp only [Int.reduceToNat] at ho10; rw [← Ny206.out] at ho10))
         have n0_ := Aside0.mk (Kd.R_below (kr_ HO214.out) hb)
         have n1_ := Aside0.mk (Kd.R_lower ho10 (below_size (by repeat (first | (with_reducible first | exact HB.out | apply below_alloc | apply pw_below_drewN | apply below_drew1 | refine below_set ?_ GE204.out | refine below_set ?_ GE205.out) | exact HB.out))))
         have n2_ := Aside0.mk (blk_below (kb_ BK204.out) hb)
         have n3_ := Aside0.mk (blk_below (kb_ BK205.out) hb)
         have n4_ := Aside0.mk (below_step (by repeat (first | (with_reducible first | exact HB.out | apply below_alloc | apply pw_below_drewN | apply below_drew1 | refine below_set ?_ GE204.out | refine below_set ?_ GE205.out) | exact HB.out)) hb)
         clear HO214
         clear BK204
         clear BK205
         clear HB
         have HO214 := n0_
         have HO208 := n1_
         have BK204 := n2_
         have BK205 := n3_
         have HB := n4_
         clear n0_ n1_ n2_ n3_ n4_
         clear hb ho10
         refine hK.out _ _ BK204.out (fun hHeld => ?_)
         clear hK K
         refine norm_ (a' := ?_) ?_ ?_
         rotate_left
         · show Act.put _ (some 3) _ = _
           simp only [Act.put, List.setIfInBounds_toArray, List.set_cons_zero, List.set_cons_succ, i64_w, i32_w]
           rfl
         refine one_ (i := 3) (N := some 6) #[true, true, true, true, true, true, true, false, false, false, false, false] rfl rfl (one_of HT_.out (by kernel_rfl)) (by decide) (fun K hK => ?_)
         refine Kd.R_append_rows_step k61 (w0 := w) w.heap.size (by rfl) (.tmp 3) (.tmp 5) 29 61 (.agg #[(.string ⟨#[]⟩), (.int .i64 0), (.int .i64 0)]) 32 rfl Try.underlying29 info61 rfl (by decide) (by omega) v207 y206 l0_6 _ _ _ (fun _ => True) (fun _ => False) rfl rfl ?aO ?aR (fun _ _ h => h) (fun _ h => h.elim) ?aF ?aB ?aS ?aL ?_
         (case aR => repeat (first | exact (Kd.C_below HR0_6.out HB.out) | (with_reducible refine Kd.C_alloc ?_ _) | (with_reducible refine Kd.C_drewN ?_ _) | (with_reducible refine Kd.C_drew ?_)))
         (case aB => exact (by repeat (first | (with_reducible first | exact HB.out | apply below_alloc | apply pw_below_drewN | apply below_drew1 | refine below_set ?_ GE204.out | refine below_set ?_ GE205.out) | exact HB.out)))
         (case aF => exact (fun _ _ => trivial))
         (case aO => exact (kr_ HO208.out))
         (case aS => exact (below_size (by repeat (first | (with_reducible first | exact HB.out | apply below_alloc | apply pw_below_drewN | apply below_drew1 | refine below_set ?_ GE204.out | refine below_set ?_ GE205.out) | exact HB.out))))
         (case aL => have := LMc2.out; omega)
         intro v210 w11 ho hb hg hat
         rw [← Ny209.out] at ho
         have n0_ := Aside0.mk (blk_grown (kb_ BK204.out) hg (Kd.R_ne HO208.out BK204.out (by decide)))
         have n1_ := Aside0.mk (blk_grown (kb_ BK205.out) hg (Kd.R_ne HO208.out BK205.out (by decide)))
         have n2_ := Aside0.mk (Kd.R_over' (kr_ HO214.out) (Kd.R_typed (kr_ HO208.out)) (by decide) hg)
         have n3_ := Aside0.mk (hb)
         have n4_ := Aside0.mk (ho)
         clear BK204
         clear BK205
         clear HO214
         clear HB
         clear HO208
         have BK204 := n0_
         have BK205 := n1_
         have HO214 := n2_
         have HB := n3_
         have HO211 := n4_
         clear n0_ n1_ n2_ n3_ n4_
         clear ho hb hg hat
         refine hK.out _ _ BK204.out (fun hHeld => ?_)
         clear hK K
         refine norm_ (a' := ?_) ?_ ?_
         rotate_left
         · show Act.put _ (some 6) _ = _
           simp only [Act.put, List.setIfInBounds_toArray, List.set_cons_zero, List.set_cons_succ, i64_w, i32_w]
           rfl
         refine pure_ (i := 8) (N := some 11) (v := ?_) (a' := ?_) #[true, true, true, true, true, true, true, false, true, false, false, false] rfl rfl (any_of HT_.out (by kernel_rfl)) (fun _ _ _ h => h) (Or.inl ⟨by rfl, ?_⟩) ?_ ?_
         rotate_left
         · intro w'
           go_simp
           with_reducible rfl
         rotate_left
         · simp only [Act.put, List.setIfInBounds_toArray, List.set_cons_zero, List.set_cons_succ, i64_w, i32_w]
           rfl
         exact norm_ (by simp only [putAll, Act.put, List.setIfInBounds_toArray, List.set_cons_zero, List.set_cons_succ]) (hCont (v207, v210, v213) _ ⟨hHeld, (kr_ HO211.out), (kr_ HO214.out), (kb_ BK204.out), (kb_ BK205.out), (by repeat (first | (with_reducible first | exact HB.out | apply below_alloc | apply pw_below_drewN | apply below_drew1 | refine below_set ?_ GE204.out | refine below_set ?_ GE205.out) | exact HB.out))⟩)
     rintro ⟨v207, v210, v213⟩ w12 ⟨hS_, h0_, h1_, h2_, h3_, h4_⟩
     have n0_ : Aside0 (Kd.R k61 61 w12 w.heap.size (fun _ => True) v210 y209) := ⟨h0_⟩
     have n1_ : Aside0 (Kd.R k46 46 w12 w.heap.size (fun _ => True) v213 y212) := ⟨h1_⟩
     have n2_ : Aside0 (w12.heap[gb204]? = some (.cells #[.int .i64 a0_0, .int .i64 a0_1, .int .i64 a0_2, .int .i64 a0_3, .int .i64 a0_4, .int .i64 a0_5, .slice A0_6 l0_6.length c0_6, .slice A0_7 l0_7.length c0_7, .bool a0_8] 32 (0, 0))) := ⟨h2_⟩
     have n3_ : Aside0 (w12.heap[gb205]? = some (.cells #[.int .i64 0, .int .i64 0, .int .i64 0, .int .i64 0, .int .i64 0, .int .i64 0, .slice none 0 0, .slice none 0 0, .bool false] 32 (0, 0))) := ⟨h3_⟩
     have n4_ : Aside0 (Below w.heap.size w w12) := ⟨h4_⟩
     clear BK204
     clear BK205
     clear HB
     clear h0_ h1_ h2_ h3_ h4_
     have HO211 := n0_
     have HO214 := n1_
     have BK204 := n2_
     have BK205 := n3_
     have HB := n4_
     clear n0_ n1_ n2_ n3_ n4_
     have hHeld : w12.heap[gb204]? = some (.cells #[.int .i64 a0_0, .int .i64 a0_1, .int .i64 a0_2, .int .i64 a0_3, .int .i64 a0_4, .int .i64 a0_5, .slice A0_6 l0_6.length c0_6, .slice A0_7 l0_7.length c0_7, .bool a0_8] 32 (0, 0)) := hS_
     refine norm_ (a' := ?_) ?_ ?_
     rotate_left
     · simp only [putAll, Act.put, List.setIfInBounds_toArray, List.set_cons_zero, List.set_cons_succ]
       rfl
     refine one_ (i := 7) (N := some 10) #[true, true, true, true, true, true, true, true, true, false, false, false] rfl rfl (one_of HT_.out (by kernel_rfl)) (by decide) (fun K hK => ?_)
     refine Kd.R_append_rows_step k46 (w0 := w) w.heap.size (by rfl) (.tmp 7) (.tmp 9) 30 46 (.agg #[(.string ⟨#[]⟩), (.string ⟨#[]⟩)]) 32 rfl Try.underlying30 info46 rfl (by decide) (by omega) v213 y212 l0_7 _ _ _ (fun _ => True) (fun _ => False) rfl rfl ?aO ?aR (fun _ _ h => h) (fun _ h => h.elim) ?aF ?aB ?aS ?aL ?_
     (case aR => repeat (first | exact (Kd.C_below HR0_7.out HB.out) | (with_reducible refine Kd.C_alloc ?_ _) | (with_reducible refine Kd.C_drewN ?_ _) | (with_reducible refine Kd.C_drew ?_)))
     (case aB => exact (by repeat (first | (with_reducible first | exact HB.out | apply below_alloc | apply pw_below_drewN | apply below_drew1 | refine below_set ?_ GE204.out | refine below_set ?_ GE205.out) | exact HB.out)))
     (case aF => exact (fun _ _ => trivial))
     (case aO => exact (kr_ HO214.out))
     (case aS => exact (below_size (by repeat (first | (with_reducible first | exact HB.out | apply below_alloc | apply pw_below_drewN | apply below_drew1 | refine below_set ?_ GE204.out | refine below_set ?_ GE205.out) | exact HB.out))))
     (case aL => have := LMc3.out; omega)
     intro v216 w13 ho hb hg hat
     rw [← Ny215.out] at ho
     have n0_ := Aside0.mk (blk_grown (kb_ BK204.out) hg (Kd.R_ne HO214.out BK204.out (by decide)))
     have n1_ := Aside0.mk (blk_grown (kb_ BK205.out) hg (Kd.R_ne HO214.out BK205.out (by decide)))
     have n2_ := Aside0.mk (Kd.R_over' (kr_ HO211.out) (Kd.R_typed (kr_ HO214.out)) (by decide) hg)
     have n3_ := Aside0.mk (hb)
     have n4_ := Aside0.mk (ho)
     clear BK204
     clear BK205
     clear HO211
     clear HB
     clear HO214
     have BK204 := n0_
     have BK205 := n1_
     have HO211 := n2_
     have HB := n3_
     have HO217 := n4_
     clear n0_ n1_ n2_ n3_ n4_
     clear ho hb hg hat
     obtain ⟨Ao14, co14, eo14⟩ := Kd.R_slice HO211.out
     (first | subst eo14 | (injection eo14 with f1_ f2_ f3_; have f4_ := f1_.symm; have f5_ := f3_.symm; clear f1_ f2_ f3_; subst f4_; subst f5_))
     obtain ⟨Ao16, co16, eo16⟩ := Kd.R_slice HO217.out
     (first | subst eo16 | (injection eo16 with f1_ f2_ f3_; have f4_ := f1_.symm; have f5_ := f3_.symm; clear f1_ f2_ f3_; subst f4_; subst f5_))
     refine hK.out _ _ BK204.out (fun hHeld => ?_)
     clear hK K
     refine norm_ (a' := ?_) ?_ ?_
     rotate_left
     · show Act.put _ (some 10) _ = _
       simp only [Act.put, List.setIfInBounds_toArray, List.set_cons_zero, List.set_cons_succ, i64_w, i32_w]
       rfl
     refine last_ (i := 9) (N := none) #[true, true, true, true, true, true, true, true, true, true, false, false] rfl rfl (one_of HT_.out (by kernel_rfl)) (by decide) (fun K hK => ?_)
     have hs15 : w13.cell? ⟨gb204, 6, none⟩ = some (.slice A0_6 l0_6.length c0_6) := (blk_cell BK204.out 6).trans rfl
     have hfs15 := blk_frozen BK204.out 6
     have hns15_1 := NB205_204.out
     have hms15_1 := NB204_205.out
     refine skip_ (w1 := ?_) (by rfl) rfl ?_ ?_
     rotate_left
     · go_simp
       rfl
     refine hK.out _ _ ?_
     clear hK K
     refine pure_ (i := 10) (N := some 12) (v := ?_) (a' := ?_) #[true, true, true, true, true, true, true, true, true, true, true, false] rfl rfl (any_of HT_.out (by kernel_rfl)) (fun _ _ _ h => h) (Or.inl ⟨by rfl, ?_⟩) ?_ ?_
     rotate_left
     · intro w'
       go_simp
       with_reducible rfl
     rotate_left
     · simp only [Act.put, List.setIfInBounds_toArray, List.set_cons_zero, List.set_cons_succ, i64_w, i32_w]
       rfl
     refine last_ (i := 11) (N := none) #[true, true, true, true, true, true, true, true, true, true, true, true] rfl rfl (one_of HT_.out (by kernel_rfl)) (by decide) (fun K hK => ?_)
     have hs17 : w13.cell? ⟨gb204, 7, none⟩ = some (.slice A0_7 l0_7.length c0_7) := (blk_cell BK204.out 7).trans rfl
     have hfs17 := blk_frozen BK204.out 7
     have hns17_1 := NB205_204.out
     have hms17_1 := NB204_205.out
     refine skip_ (w1 := ?_) (by rfl) rfl ?_ ?_
     rotate_left
     · go_simp
       rfl
     refine hK.out _ _ ?_
     clear hK K
     refine done_ (done_of HT_.out (by kernel_rfl)) ?_
     have hnb18 := NB204_205.out
     have hnc18 := NB205_204.out
     refine blk9_ BK204.out fun hcz19_0 hcz19_1 hcz19_2 hcz19_3 hcz19_4 hcz19_5 hcz19_6 hcz19_7 hcz19_8 hfz19_0 hfz19_1 hfz19_2 hfz19_3 hfz19_4 hfz19_5 hfz19_6 hfz19_7 hfz19_8 => ?_
     refine blk9_ BK205.out fun hcz20_0 hcz20_1 hcz20_2 hcz20_3 hcz20_4 hcz20_5 hcz20_6 hcz20_7 hcz20_8 hfz20_0 hfz20_1 hfz20_2 hfz20_3 hfz20_4 hfz20_5 hfz20_6 hfz20_7 hfz20_8 => ?_
     try go_wp2_with (first | ((with_reducible refine gate_store (t := 32) (p := 2) rfl ?_); refine store_event (t := 32) (p := 2) (v := ?vo_w21) (w1 := (((((((((((w13.setCell ⟨gb204, 6, none⟩ (.slice Ao14 y209.length co14)).setCell ⟨gb204, 7, none⟩ (.slice Ao16 y215.length co16)).setCell ⟨gb205, 0, none⟩ (.int .i64 a0_0)).setCell ⟨gb205, 1, none⟩ (.int .i64 a0_1)).setCell ⟨gb205, 2, none⟩ (.int .i64 a0_2)).setCell ⟨gb205, 3, none⟩ (.int .i64 a0_3)).setCell ⟨gb205, 4, none⟩ (.int .i64 a0_4)).setCell ⟨gb205, 5, none⟩ (.int .i64 a0_5)).setCell ⟨gb205, 6, none⟩ (.slice Ao14 y209.length co14)).setCell ⟨gb205, 7, none⟩ (.slice Ao16 y215.length co16)).setCell ⟨gb205, 8, none⟩ (.bool a0_8))) ?hg ?ho ?hn ?hr ?_; (case ho => rfl); (case hg => rfl); (case hn => rfl); (case hr => first | (go_simp; done) | (go_simp; rfl)); intro w21 hw; have n0_ : Aside0 (Kd.R k61 61 w21 w.heap.size (fun _ => True) (.slice Ao14 y209.length co14) y209) := ⟨(by rw [hw]; exact (by (with_reducible repeat (first | apply Kd.R_alloc | apply Kd.R_drewN | apply Kd.R_drew)); exact Kd.R_mono (Kd.R_far (p := ⟨gb205, 8, none⟩) (Kd.R_far (p := ⟨gb205, 7, none⟩) (Kd.R_far (p := ⟨gb205, 6, none⟩) (Kd.R_far (p := ⟨gb205, 5, none⟩) (Kd.R_far (p := ⟨gb205, 4, none⟩) (Kd.R_far (p := ⟨gb205, 3, none⟩) (Kd.R_far (p := ⟨gb205, 2, none⟩) (Kd.R_far (p := ⟨gb205, 1, none⟩) (Kd.R_far (p := ⟨gb205, 0, none⟩) (Kd.R_far (p := ⟨gb204, 7, none⟩) (Kd.R_far (p := ⟨gb204, 6, none⟩) (Kd.R_types (Kd.R_types HO211.out BK204.out (by decide)) BK205.out (by decide)) (fun _ hk => hk.1.2) (.slice Ao14 y209.length co14)) (fun _ hk => hk.1.2) (.slice Ao16 y215.length co16)) (fun _ hk => hk.2) (.int .i64 a0_0)) (fun _ hk => hk.2) (.int .i64 a0_1)) (fun _ hk => hk.2) (.int .i64 a0_2)) (fun _ hk => hk.2) (.int .i64 a0_3)) (fun _ hk => hk.2) (.int .i64 a0_4)) (fun _ hk => hk.2) (.int .i64 a0_5)) (fun _ hk => hk.2) (.slice Ao14 y209.length co14)) (fun _ hk => hk.2) (.slice Ao16 y215.length co16)) (fun _ hk => hk.2) (.bool a0_8)) (fun _ hk => trivial)))⟩; have n1_ : Aside0 (Kd.R k46 46 w21 w.heap.size (fun _ => True) (.slice Ao16 y215.length co16) y215) := ⟨(by rw [hw]; exact (by (with_reducible repeat (first | apply Kd.R_alloc | apply Kd.R_drewN | apply Kd.R_drew)); exact Kd.R_mono (Kd.R_far (p := ⟨gb205, 8, none⟩) (Kd.R_far (p := ⟨gb205, 7, none⟩) (Kd.R_far (p := ⟨gb205, 6, none⟩) (Kd.R_far (p := ⟨gb205, 5, none⟩) (Kd.R_far (p := ⟨gb205, 4, none⟩) (Kd.R_far (p := ⟨gb205, 3, none⟩) (Kd.R_far (p := ⟨gb205, 2, none⟩) (Kd.R_far (p := ⟨gb205, 1, none⟩) (Kd.R_far (p := ⟨gb205, 0, none⟩) (Kd.R_far (p := ⟨gb204, 7, none⟩) (Kd.R_far (p := ⟨gb204, 6, none⟩) (Kd.R_types (Kd.R_types HO217.out BK204.out (by decide)) BK205.out (by decide)) (fun _ hk => hk.1.2) (.slice Ao14 y209.length co14)) (fun _ hk => hk.1.2) (.slice Ao16 y215.length co16)) (fun _ hk => hk.2) (.int .i64 a0_0)) (fun _ hk => hk.2) (.int .i64 a0_1)) (fun _ hk => hk.2) (.int .i64 a0_2)) (fun _ hk => hk.2) (.int .i64 a0_3)) (fun _ hk => hk.2) (.int .i64 a0_4)) (fun _ hk => hk.2) (.int .i64 a0_5)) (fun _ hk => hk.2) (.slice Ao14 y209.length co14)) (fun _ hk => hk.2) (.slice Ao16 y215.length co16)) (fun _ hk => hk.2) (.bool a0_8)) (fun _ hk => trivial)))⟩; have n2_ : Aside0 (w21.heap[gb204]? = some (.cells #[.int .i64 a0_0, .int .i64 a0_1, .int .i64 a0_2, .int .i64 a0_3, .int .i64 a0_4, .int .i64 a0_5, .slice Ao14 y209.length co14, .slice Ao16 y215.length co16, .bool a0_8] 32 (0, 0))) := ⟨(by rw [hw]; exact (by (with_reducible repeat (first | refine blk_drewN ?_ _ | refine blk_drew ?_ | refine blk_alloc ?_ _)); refine blk_far ?_ NB204_205.out _; (with_reducible repeat (first | refine blk_drewN ?_ _ | refine blk_drew ?_ | refine blk_alloc ?_ _)); refine blk_far ?_ NB204_205.out _; (with_reducible repeat (first | refine blk_drewN ?_ _ | refine blk_drew ?_ | refine blk_alloc ?_ _)); refine blk_far ?_ NB204_205.out _; (with_reducible repeat (first | refine blk_drewN ?_ _ | refine blk_drew ?_ | refine blk_alloc ?_ _)); refine blk_far ?_ NB204_205.out _; (with_reducible repeat (first | refine blk_drewN ?_ _ | refine blk_drew ?_ | refine blk_alloc ?_ _)); refine blk_far ?_ NB204_205.out _; (with_reducible repeat (first | refine blk_drewN ?_ _ | refine blk_drew ?_ | refine blk_alloc ?_ _)); refine blk_far ?_ NB204_205.out _; (with_reducible repeat (first | refine blk_drewN ?_ _ | refine blk_drew ?_ | refine blk_alloc ?_ _)); refine blk_far ?_ NB204_205.out _; (with_reducible repeat (first | refine blk_drewN ?_ _ | refine blk_drew ?_ | refine blk_alloc ?_ _)); refine blk_far ?_ NB204_205.out _; (with_reducible repeat (first | refine blk_drewN ?_ _ | refine blk_drew ?_ | refine blk_alloc ?_ _)); refine blk_far ?_ NB204_205.out _; (with_reducible repeat (first | refine blk_drewN ?_ _ | refine blk_drew ?_ | refine blk_alloc ?_ _)); refine blk_put (cs := #[.int .i64 a0_0, .int .i64 a0_1, .int .i64 a0_2, .int .i64 a0_3, .int .i64 a0_4, .int .i64 a0_5, .slice Ao14 y209.length co14, .slice A0_7 l0_7.length c0_7, .bool a0_8]) ?_ 7 _ rfl; (with_reducible repeat (first | refine blk_drewN ?_ _ | refine blk_drew ?_ | refine blk_alloc ?_ _)); refine blk_put (cs := #[.int .i64 a0_0, .int .i64 a0_1, .int .i64 a0_2, .int .i64 a0_3, .int .i64 a0_4, .int .i64 a0_5, .slice A0_6 l0_6.length c0_6, .slice A0_7 l0_7.length c0_7, .bool a0_8]) ?_ 6 _ rfl; (with_reducible repeat (first | refine blk_drewN ?_ _ | refine blk_drew ?_ | refine blk_alloc ?_ _)); exact BK204.out))⟩; have n3_ : Aside0 (w21.heap[gb205]? = some (.cells #[.int .i64 a0_0, .int .i64 a0_1, .int .i64 a0_2, .int .i64 a0_3, .int .i64 a0_4, .int .i64 a0_5, .slice Ao14 y209.length co14, .slice Ao16 y215.length co16, .bool a0_8] 32 (0, 0))) := ⟨(by rw [hw]; exact (by (with_reducible repeat (first | refine blk_drewN ?_ _ | refine blk_drew ?_ | refine blk_alloc ?_ _)); refine blk_put (cs := #[.int .i64 a0_0, .int .i64 a0_1, .int .i64 a0_2, .int .i64 a0_3, .int .i64 a0_4, .int .i64 a0_5, .slice Ao14 y209.length co14, .slice Ao16 y215.length co16, .bool false]) ?_ 8 _ rfl; (with_reducible repeat (first | refine blk_drewN ?_ _ | refine blk_drew ?_ | refine blk_alloc ?_ _)); refine blk_put (cs := #[.int .i64 a0_0, .int .i64 a0_1, .int .i64 a0_2, .int .i64 a0_3, .int .i64 a0_4, .int .i64 a0_5, .slice Ao14 y209.length co14, .slice none 0 0, .bool false]) ?_ 7 _ rfl; (with_reducible repeat (first | refine blk_drewN ?_ _ | refine blk_drew ?_ | refine blk_alloc ?_ _)); refine blk_put (cs := #[.int .i64 a0_0, .int .i64 a0_1, .int .i64 a0_2, .int .i64 a0_3, .int .i64 a0_4, .int .i64 a0_5, .slice none 0 0, .slice none 0 0, .bool false]) ?_ 6 _ rfl; (with_reducible repeat (first | refine blk_drewN ?_ _ | refine blk_drew ?_ | refine blk_alloc ?_ _)); refine blk_put (cs := #[.int .i64 a0_0, .int .i64 a0_1, .int .i64 a0_2, .int .i64 a0_3, .int .i64 a0_4, .int .i64 0, .slice none 0 0, .slice none 0 0, .bool false]) ?_ 5 _ rfl; (with_reducible repeat (first | refine blk_drewN ?_ _ | refine blk_drew ?_ | refine blk_alloc ?_ _)); refine blk_put (cs := #[.int .i64 a0_0, .int .i64 a0_1, .int .i64 a0_2, .int .i64 a0_3, .int .i64 0, .int .i64 0, .slice none 0 0, .slice none 0 0, .bool false]) ?_ 4 _ rfl; (with_reducible repeat (first | refine blk_drewN ?_ _ | refine blk_drew ?_ | refine blk_alloc ?_ _)); refine blk_put (cs := #[.int .i64 a0_0, .int .i64 a0_1, .int .i64 a0_2, .int .i64 0, .int .i64 0, .int .i64 0, .slice none 0 0, .slice none 0 0, .bool false]) ?_ 3 _ rfl; (with_reducible repeat (first | refine blk_drewN ?_ _ | refine blk_drew ?_ | refine blk_alloc ?_ _)); refine blk_put (cs := #[.int .i64 a0_0, .int .i64 a0_1, .int .i64 0, .int .i64 0, .int .i64 0, .int .i64 0, .slice none 0 0, .slice none 0 0, .bool false]) ?_ 2 _ rfl; (with_reducible repeat (first | refine blk_drewN ?_ _ | refine blk_drew ?_ | refine blk_alloc ?_ _)); refine blk_put (cs := #[.int .i64 a0_0, .int .i64 0, .int .i64 0, .int .i64 0, .int .i64 0, .int .i64 0, .slice none 0 0, .slice none 0 0, .bool false]) ?_ 1 _ rfl; (with_reducible repeat (first | refine blk_drewN ?_ _ | refine blk_drew ?_ | refine blk_alloc ?_ _)); refine blk_put (cs := #[.int .i64 0, .int .i64 0, .int .i64 0, .int .i64 0, .int .i64 0, .int .i64 0, .slice none 0 0, .slice none 0 0, .bool false]) ?_ 0 _ rfl; (with_reducible repeat (first | refine blk_drewN ?_ _ | refine blk_drew ?_ | refine blk_alloc ?_ _)); refine blk_far ?_ NB205_204.out _; (with_reducible repeat (first | refine blk_drewN ?_ _ | refine blk_drew ?_ | refine blk_alloc ?_ _)); refine blk_far ?_ NB205_204.out _; (with_reducible repeat (first | refine blk_drewN ?_ _ | refine blk_drew ?_ | refine blk_alloc ?_ _)); exact BK205.out))⟩; have n4_ : Aside0 (Below w.heap.size w w21) := ⟨(by rw [hw]; exact (by repeat (first | (with_reducible first | exact HB.out | apply below_alloc | apply pw_below_drewN | apply below_drew1 | refine below_set ?_ GE204.out | refine below_set ?_ GE205.out) | exact HB.out)))⟩; clear hw; clear HO211; clear HO217; clear BK204; clear BK205; clear HB; have HO211 := n0_; have HO217 := n1_; have BK204 := n2_; have BK205 := n3_; have HB := n4_; clear n0_ n1_ n2_ n3_ n4_))
     refine bodyPost_ret (results_cell_row rfl _ _ gb205 32 #[.int .i64 a0_0, .int .i64 a0_1, .int .i64 a0_2, .int .i64 a0_3, .int .i64 a0_4, .int .i64 a0_5, .slice Ao14 y209.length co14, .slice Ao16 y215.length co16, .bool a0_8] (0, 0) _ rfl (kb_ BK205.out) Try.underlying32 rfl (by kernel_rfl)) rfl ?_
     exact ⟨_, _, by first | rfl | (simp [errW_none, errW_some] <;> rfl) | (simp [*, errW_none, errW_some] <;> rfl), by (with_reducible repeat (first | apply Kd.R_alloc | apply Kd.R_drewN | apply Kd.R_drew)); exact HO211.out, by (with_reducible repeat (first | apply Kd.R_alloc | apply Kd.R_drewN | apply Kd.R_drew)); exact HO217.out, by repeat (first | (with_reducible first | exact HB.out | apply below_alloc | apply pw_below_drewN | apply below_drew1 | refine below_set ?_ GE204.out | refine below_set ?_ GE205.out) | exact HB.out)⟩
   · rw [if_neg c3] at H
     exact absurd H (by simp)
 · rw [if_neg c2] at H
   exact absurd H (by simp)
end Go.Proofs.Ytklbmdakoeoplaa.X
end
section
namespace Go.Proofs.Ytklbmdakoeoplaa.X
open Go.RowKit Go.Proofs.YtklbmdakoeoplaaW.PrintWords Go.Proofs.YtklbmdakoeoplaaW.PrintLast Go.Proofs.YtklbmdakoeoplaaW.PrintMore
attribute [local go_sem] max2_int min2_int max_two min_two max_three min_three max_four min_four   -- for this text's walks alone
set_option linter.unusedVariables false
set_option linter.unusedSimpArgs false
/-! ### index_Known: function 14 -/
def index_Known.l0 : Nat → List (S44) → List (S44) → List (S44) → Int → Int → Option ((List (S44)))
 | 0, _, _, _, _, _ => none
 | k + 1, x0, x3, x7, x8, x9 => if x9 < x8 then (if 0 ≤ x9 then (if x9 < (x7.length : Int) then (if 0 ≤ (wrap64 (x9 + 1)) then (if (wrap64 (x9 + 1)) ≤ (x0.length : Int) then ((api_Record.f (x0.drop ((wrap64 (x9 + 1)) : Int).toNat) ((rd_T44 x7 x9).f0.f0) ((rd_T44 x7 x9).f0.f1)).bind fun t224 => (if t224 = true then (index_Known.l0 k x0 x3 x7 x8 (wrap64 (x9 + 1))) else ((command_Clone.f ((rd_T44 x7 x9).f4.f0) ((rd_T44 x7 x9).f4.f1.f0) ((rd_T44 x7 x9).f4.f1.f1) ((rd_T44 x7 x9).f4.f2.f0) ((rd_T44 x7 x9).f4.f2.f1) ((rd_T44 x7 x9).f4.f3) ((rd_T44 x7 x9).f4.f4) ((rd_T44 x7 x9).f4.f5) ((rd_T44 x7 x9).f4.f6)).bind fun bt225 => (if x3.length < 606627104979 then (index_Known.l0 k x0 (x3 ++ [(⟨(⟨(rd_T44 x7 x9).f0.f0, (rd_T44 x7 x9).f0.f1⟩ : S24), (rd_T44 x7 x9).f1, (⟨(rd_T44 x7 x9).f2.f0, (rd_T44 x7 x9).f2.f1⟩ : S40), (⟨(rd_T44 x7 x9).f3.f0, (rd_T44 x7 x9).f3.f1⟩ : S40), (⟨bt225.1, (⟨bt225.2.1, bt225.2.2.1⟩ : S26), (⟨bt225.2.2.2.1, bt225.2.2.2.2.1⟩ : S28), bt225.2.2.2.2.2.1, bt225.2.2.2.2.2.2.1, bt225.2.2.2.2.2.2.2.1, bt225.2.2.2.2.2.2.2.2⟩ : S32), (rd_T44 x7 x9).f5, (⟨(rd_T44 x7 x9).f6.f0, (rd_T44 x7 x9).f6.f1, (rd_T44 x7 x9).f6.f2, (rd_T44 x7 x9).f6.f3, (rd_T44 x7 x9).f6.f4, (rd_T44 x7 x9).f6.f5, (rd_T44 x7 x9).f6.f6⟩ : S42), (rd_T44 x7 x9).f7⟩ : S44)]) x7 x8 (wrap64 (x9 + 1))) else (none))))) else (none)) else (none)) else (none)) else (none)) else (some x3)
def index_Known.f (k : Nat) (l0 : List (S44)) : Option ((List (S44))) := index_Known.l0 k l0 ([] : List (S44)) l0 (l0.length : Int) 0
set_option maxHeartbeats 8000000 in
set_option maxRecDepth 100000 in
theorem index_Known.calls (k : Nat) (A0 : Option Addr) (c0 : Nat) (l0 : List (S44)) (r : List (S44)) (w : World) (hr0 : Kd.C k44 w A0 l0.length l0) (hc0 : l0.length ≤ c0) (h : index_Known.f k l0 = some r) :
 Calls Try.prog 14 #[.slice A0 l0.length c0] w fun e w' => ∃ v0_ : Value, e = .returned (v0_) ∧ Kd.S k44 44 w' w.heap.size (fun _ => True) v0_ r ∧ Below w.heap.size w w' := by
 have hu44 := Try.underlying44
 have hu32 := Try.underlying32
 have HR0 := Aside0.mk hr0
 have HC0 := Aside0.mk hc0
 clear hr0 hc0
 have HB := Aside0.mk (Below.refl w.heap.size w)
 have H : (index_Known.l0 k l0 ([] : List (S44)) l0 (l0.length : Int) 0) = some r := h
 clear h
 have H' := Aside0.mk H
 clear H
 go_enter Try.func14, Try.ntmps14
 go_wp2
 go_loopg [3, 9] k (fun kq v3 v9 w' => ∃ (x3_1 : List (S44)) (x9_1 : Int), v9 = .int .i64 x9_1 ∧ Aside0 (index_Known.l0 kq l0 x3_1 l0 (l0.length : Int) x9_1 = some r) ∧ Aside0 (kq ≤ k) ∧ Aside0 (Kd.S k44 44 w' w.heap.size (fun _ => True) v3 x3_1) ∧ Aside0 (Below w.heap.size w w'))
 case atStart => exact ⟨(([] : List (S44))), (0), (by first | rfl | (simp; done) | (simp [*]; done)), H', ⟨Nat.le_refl _⟩, ⟨by first | exact Kd.S_nil _ _ _ _ _ | exact Kd.N_nil _ _ _ _ _ | exact Kd.V_nil _ _ _ _ _ | exact Kd.Q_nil _ _ _ _ _ | exact Kd.R_nil _ _ _ _ _⟩, ⟨by repeat (first | (with_reducible first | exact HB.out | apply below_alloc | apply pw_below_drewN | apply below_drew1) | exact HB.out)⟩⟩
 case round =>
  clear H'
  try clear c1
  obtain ⟨x3_1, x9_1, rfl, HA, HK1, HO_3, HB⟩ := hrel
  cases gk with
  | zero => exact absurd HA.out (by simp [index_Known.l0])
  | succ k1 =>
   have H := HA.out
   clear HA
   simp only [index_Known.l0] at H
   by_cases c2 : x9_1 < (l0.length : Int)
   · rw [if_pos c2] at H
     have c2b0 : decide (x9_1 < (l0.length : Int)) = true := decide_eq_true c2
     clear c2
     by_cases c3 : 0 ≤ x9_1
     · rw [if_pos c3] at H
       have c3b0 : decide (0 ≤ x9_1) = true := decide_eq_true c3
       clear c3
       by_cases c4 : x9_1 < (l0.length : Int)
       · rw [if_pos c4] at H
         have c4b0 : decide (x9_1 < (l0.length : Int)) = true := decide_eq_true c4
         clear c4
         obtain ⟨ji5, hji5⟩ : ∃ j_ : Int, (wrap64 (x9_1 + 1)) = j_ := ⟨_, rfl⟩
         replace H : (if 0 ≤ (ji5) then (if (ji5) ≤ (l0.length : Int) then ((api_Record.f (l0.drop ((ji5) : Int).toNat) ((rd_T44 l0 x9_1).f0.f0) ((rd_T44 l0 x9_1).f0.f1)).bind fun t224 => (if t224 = true then (index_Known.l0 k1 l0 x3_1 l0 (l0.length : Int) ji5) else ((command_Clone.f ((rd_T44 l0 x9_1).f4.f0) ((rd_T44 l0 x9_1).f4.f1.f0) ((rd_T44 l0 x9_1).f4.f1.f1) ((rd_T44 l0 x9_1).f4.f2.f0) ((rd_T44 l0 x9_1).f4.f2.f1) ((rd_T44 l0 x9_1).f4.f3) ((rd_T44 l0 x9_1).f4.f4) ((rd_T44 l0 x9_1).f4.f5) ((rd_T44 l0 x9_1).f4.f6)).bind fun bt225 => (if x3_1.length < 606627104979 then (index_Known.l0 k1 l0 (x3_1 ++ [(⟨(⟨(rd_T44 l0 x9_1).f0.f0, (rd_T44 l0 x9_1).f0.f1⟩ : S24), (rd_T44 l0 x9_1).f1, (⟨(rd_T44 l0 x9_1).f2.f0, (rd_T44 l0 x9_1).f2.f1⟩ : S40), (⟨(rd_T44 l0 x9_1).f3.f0, (rd_T44 l0 x9_1).f3.f1⟩ : S40), (⟨bt225.1, (⟨bt225.2.1, bt225.2.2.1⟩ : S26), (⟨bt225.2.2.2.1, bt225.2.2.2.2.1⟩ : S28), bt225.2.2.2.2.2.1, bt225.2.2.2.2.2.2.1, bt225.2.2.2.2.2.2.2.1, bt225.2.2.2.2.2.2.2.2⟩ : S32), (rd_T44 l0 x9_1).f5, (⟨(rd_T44 l0 x9_1).f6.f0, (rd_T44 l0 x9_1).f6.f1, (rd_T44 l0 x9_1).f6.f2, (rd_T44 l0 x9_1).f6.f3, (rd_T44 l0 x9_1).f6.f4, (rd_T44 l0 x9_1).f6.f5, (rd_T44 l0 x9_1).f6.f6⟩ : S42), (rd_T44 l0 x9_1).f7⟩ : S44)]) l0 (l0.length : Int) ji5) else (none))))) else (none)) else (none)) = some r := by first | (rw [hji5] at H; exact H) | (simp only [hji5] at H ⊢; exact H)
         have hji5w : (IntKind.i64.wrap (x9_1 + 1)) = ji5 := (i64_w _).trans hji5
         by_cases c6 : 0 ≤ (ji5)
         · rw [if_pos c6] at H
           have c6b0 := eq_true c6
           have c6b1 : decide (0 ≤ (ji5)) = true := decide_eq_true c6
           clear c6
           by_cases c7 : (ji5) ≤ (l0.length : Int)
           · rw [if_pos c7] at H
             have c7b0 := eq_true c7
             have c7b1 : decide ((ji5) ≤ (l0.length : Int)) = true := decide_eq_true c7
             clear c7
             obtain ⟨y220, hy220⟩ : ∃ y_ : List (S44), y_ = (l0.drop ((ji5) : Int).toNat) := ⟨_, rfl⟩
             replace H : ((api_Record.f y220 ((rd_T44 l0 x9_1).f0.f0) ((rd_T44 l0 x9_1).f0.f1)).bind fun t224 => (if t224 = true then (index_Known.l0 k1 l0 x3_1 l0 (l0.length : Int) ji5) else ((command_Clone.f ((rd_T44 l0 x9_1).f4.f0) ((rd_T44 l0 x9_1).f4.f1.f0) ((rd_T44 l0 x9_1).f4.f1.f1) ((rd_T44 l0 x9_1).f4.f2.f0) ((rd_T44 l0 x9_1).f4.f2.f1) ((rd_T44 l0 x9_1).f4.f3) ((rd_T44 l0 x9_1).f4.f4) ((rd_T44 l0 x9_1).f4.f5) ((rd_T44 l0 x9_1).f4.f6)).bind fun bt225 => (if x3_1.length < 606627104979 then (index_Known.l0 k1 l0 (x3_1 ++ [(⟨(⟨(rd_T44 l0 x9_1).f0.f0, (rd_T44 l0 x9_1).f0.f1⟩ : S24), (rd_T44 l0 x9_1).f1, (⟨(rd_T44 l0 x9_1).f2.f0, (rd_T44 l0 x9_1).f2.f1⟩ : S40), (⟨(rd_T44 l0 x9_1).f3.f0, (rd_T44 l0 x9_1).f3.f1⟩ : S40), (⟨bt225.1, (⟨bt225.2.1, bt225.2.2.1⟩ : S26), (⟨bt225.2.2.2.1, bt225.2.2.2.2.1⟩ : S28), bt225.2.2.2.2.2.1, bt225.2.2.2.2.2.2.1, bt225.2.2.2.2.2.2.2.1, bt225.2.2.2.2.2.2.2.2⟩ : S32), (rd_T44 l0 x9_1).f5, (⟨(rd_T44 l0 x9_1).f6.f0, (rd_T44 l0 x9_1).f6.f1, (rd_T44 l0 x9_1).f6.f2, (rd_T44 l0 x9_1).f6.f3, (rd_T44 l0 x9_1).f6.f4, (rd_T44 l0 x9_1).f6.f5, (rd_T44 l0 x9_1).f6.f6⟩ : S42), (rd_T44 l0 x9_1).f7⟩ : S44)]) l0 (l0.length : Int) ji5) else (none))))) = some r := by first | (rw [hy220]; with_reducible exact H) | (have H2_ := (Option.bind_some _ _).symm.trans H; rw [hy220]; with_reducible exact H2_) | (have H2_ := (Option.bind_some _ _).symm.trans H; with_reducible exact H2_) | with_reducible exact H | (rw [hy220]; exact H) | exact H
             have Ny220 := Aside0.mk hy220
             clear hy220
             obtain ⟨t224, A8, H⟩ := bs_ H
             by_cases c9 : t224 = true
             · subst c9
               rw [if_pos rfl] at H
               have H' := Aside0.mk H
               clear H
               have p218 : 0 ≤ (x9_1 : Int) := of_decide_eq_true (by first | (with_reducible assumption) | assumption)
               have q218 : x9_1 < (l0.length : Int) := of_decide_eq_true (by first | (with_reducible assumption) | assumption)
               obtain ⟨ad218, A218_13, c218_13, A218_14, c218_14, e218, hx218_0, hx218_1, hx218_2, hx218_3, hx218_4, hx218_5, hx218_6, hx218_7, hx218_8, hx218_9, hx218_10, hx218_11, hx218_12, hx218_13, hx218_14, hx218_15, hx218_16, hx218_17, hx218_18, hx218_19, hx218_20, hx218_21, hx218_22, hx218_23, hx218_24, hl218_13, hi218_13, hl218_14, hi218_14⟩ := at_T44 HR0.out x9_1 p218 q218
               cases e218
               replace hx218_0 := (HB.out.cell (World.block_lt_of_cell? w _ hx218_0)).trans hx218_0
               replace hx218_1 := (HB.out.cell (World.block_lt_of_cell? w _ hx218_1)).trans hx218_1
               replace hx218_2 := (HB.out.cell (World.block_lt_of_cell? w _ hx218_2)).trans hx218_2
               replace hx218_3 := (HB.out.cell (World.block_lt_of_cell? w _ hx218_3)).trans hx218_3
               replace hx218_4 := (HB.out.cell (World.block_lt_of_cell? w _ hx218_4)).trans hx218_4
               replace hx218_5 := (HB.out.cell (World.block_lt_of_cell? w _ hx218_5)).trans hx218_5
               replace hx218_6 := (HB.out.cell (World.block_lt_of_cell? w _ hx218_6)).trans hx218_6
               replace hx218_7 := (HB.out.cell (World.block_lt_of_cell? w _ hx218_7)).trans hx218_7
               replace hx218_8 := (HB.out.cell (World.block_lt_of_cell? w _ hx218_8)).trans hx218_8
               replace hx218_9 := (HB.out.cell (World.block_lt_of_cell? w _ hx218_9)).trans hx218_9
               replace hx218_10 := (HB.out.cell (World.block_lt_of_cell? w _ hx218_10)).trans hx218_10
               replace hx218_11 := (HB.out.cell (World.block_lt_of_cell? w _ hx218_11)).trans hx218_11
               replace hx218_12 := (HB.out.cell (World.block_lt_of_cell? w _ hx218_12)).trans hx218_12
               replace hx218_13 := (HB.out.cell (World.block_lt_of_cell? w _ hx218_13)).trans hx218_13
               replace hx218_14 := (HB.out.cell (World.block_lt_of_cell? w _ hx218_14)).trans hx218_14
               replace hx218_15 := (HB.out.cell (World.block_lt_of_cell? w _ hx218_15)).trans hx218_15
               replace hx218_16 := (HB.out.cell (World.block_lt_of_cell? w _ hx218_16)).trans hx218_16
               replace hx218_17 := (HB.out.cell (World.block_lt_of_cell? w _ hx218_17)).trans hx218_17
               replace hx218_18 := (HB.out.cell (World.block_lt_of_cell? w _ hx218_18)).trans hx218_18
               replace hx218_19 := (HB.out.cell (World.block_lt_of_cell? w _ hx218_19)).trans hx218_19
               replace hx218_20 := (HB.out.cell (World.block_lt_of_cell? w _ hx218_20)).trans hx218_20
               replace hx218_21 := (HB.out.cell (World.block_lt_of_cell? w _ hx218_21)).trans hx218_21
               replace hx218_22 := (HB.out.cell (World.block_lt_of_cell? w _ hx218_22)).trans hx218_22
               replace hx218_23 := (HB.out.cell (World.block_lt_of_cell? w _ hx218_23)).trans hx218_23
               replace hx218_24 := (HB.out.cell (World.block_lt_of_cell? w _ hx218_24)).trans hx218_24
               have HR218_13 := Aside0.mk hi218_13
               have HC218_13 := Aside0.mk hl218_13
               clear hi218_13 hl218_13
               have HR218_14 := Aside0.mk hi218_14
               have HC218_14 := Aside0.mk hl218_14
               clear hi218_14 hl218_14
               replace p218 := eq_true p218
               replace q218 := eq_true q218
               go_wp2_with (first | ((with_reducible refine gate_dst (N := 13) rfl ?_); refine cells_load_event ?lg (N := 13) ?ld (t := 44) (x := ?lxxz10) ?lo (p := ?lppz10) ?lx (v := .int .i64 ((rd_T44 l0 x9_1).f0.f0)) (cs := [.int .i64 ((rd_T44 l0 x9_1).f0.f1), .int .i64 ((rd_T44 l0 x9_1).f1), .int .i64 ((rd_T44 l0 x9_1).f2.f0), .int .i64 ((rd_T44 l0 x9_1).f2.f1), .int .i64 ((rd_T44 l0 x9_1).f3.f0), .int .i64 ((rd_T44 l0 x9_1).f3.f1), .int .i64 ((rd_T44 l0 x9_1).f4.f0), .int .i64 ((rd_T44 l0 x9_1).f4.f1.f0), .int .i64 ((rd_T44 l0 x9_1).f4.f1.f1), .int .i64 ((rd_T44 l0 x9_1).f4.f2.f0), .int .i64 ((rd_T44 l0 x9_1).f4.f2.f1), .int .i64 ((rd_T44 l0 x9_1).f4.f3), .slice A218_13 ((rd_T44 l0 x9_1).f4.f4).length c218_13, .slice A218_14 ((rd_T44 l0 x9_1).f4.f5).length c218_14, .bool ((rd_T44 l0 x9_1).f4.f6), .int .i64 ((rd_T44 l0 x9_1).f5), .int .i64 ((rd_T44 l0 x9_1).f6.f0), .int .i64 ((rd_T44 l0 x9_1).f6.f1), .int .i64 ((rd_T44 l0 x9_1).f6.f2), .int .i64 ((rd_T44 l0 x9_1).f6.f3), .int .i64 ((rd_T44 l0 x9_1).f6.f4), .int .i64 ((rd_T44 l0 x9_1).f6.f5), .int .i64 ((rd_T44 l0 x9_1).f6.f6), .bool ((rd_T44 l0 x9_1).f7)]) ?lD ?lt ?l0 ?lc ?_; (case lg => rfl); (case ld => rfl); (case lo => rfl); (case lx => first | rfl | (go_simp; done) | (go_simp; rfl)); (case lD => exact ⟨_, Try.underlying44, rfl⟩); (case lt => kernel_rfl); (case l0 => exact hx218_0); (case lc => exact ⟨hx218_1, hx218_2, hx218_3, hx218_4, hx218_5, hx218_6, hx218_7, hx218_8, hx218_9, hx218_10, hx218_11, hx218_12, hx218_13, hx218_14, hx218_15, hx218_16, hx218_17, hx218_18, hx218_19, hx218_20, hx218_21, hx218_22, hx218_23, hx218_24, trivial⟩)) | ((with_reducible refine gate_dst (N := 5) rfl ?_); refine alloc_mid_store_event (v := ?vvw11) ?hg1 (N := 5) ?hd1 ?hgm ?hg2 ?hd2 ?ho2 (cs0 := #[.int .i64 0, .int .i64 0, .int .i64 0, .int .i64 0, .int .i64 0, .int .i64 0, .int .i64 0, .int .i64 0, .int .i64 0, .int .i64 0, .int .i64 0, .int .i64 0, .int .i64 0, .slice none 0 0, .slice none 0 0, .bool false, .int .i64 0, .int .i64 0, .int .i64 0, .int .i64 0, .int .i64 0, .int .i64 0, .int .i64 0, .int .i64 0, .bool false]) (cs := #[.int .i64 ((rd_T44 l0 x9_1).f0.f0), .int .i64 ((rd_T44 l0 x9_1).f0.f1), .int .i64 ((rd_T44 l0 x9_1).f1), .int .i64 ((rd_T44 l0 x9_1).f2.f0), .int .i64 ((rd_T44 l0 x9_1).f2.f1), .int .i64 ((rd_T44 l0 x9_1).f3.f0), .int .i64 ((rd_T44 l0 x9_1).f3.f1), .int .i64 ((rd_T44 l0 x9_1).f4.f0), .int .i64 ((rd_T44 l0 x9_1).f4.f1.f0), .int .i64 ((rd_T44 l0 x9_1).f4.f1.f1), .int .i64 ((rd_T44 l0 x9_1).f4.f2.f0), .int .i64 ((rd_T44 l0 x9_1).f4.f2.f1), .int .i64 ((rd_T44 l0 x9_1).f4.f3), .slice A218_13 ((rd_T44 l0 x9_1).f4.f4).length c218_13, .slice A218_14 ((rd_T44 l0 x9_1).f4.f5).length c218_14, .bool ((rd_T44 l0 x9_1).f4.f6), .int .i64 ((rd_T44 l0 x9_1).f5), .int .i64 ((rd_T44 l0 x9_1).f6.f0), .int .i64 ((rd_T44 l0 x9_1).f6.f1), .int .i64 ((rd_T44 l0 x9_1).f6.f2), .int .i64 ((rd_T44 l0 x9_1).f6.f3), .int .i64 ((rd_T44 l0 x9_1).f6.f4), .int .i64 ((rd_T44 l0 x9_1).f6.f5), .int .i64 ((rd_T44 l0 x9_1).f6.f6), .bool ((rd_T44 l0 x9_1).f7)]) (t := 44) (x := ?xxw11) ?hr ?hrm ?hp ?hx ?hs ?h1 ?ht ?_; (case hg1 => rfl); (case hgm => rfl); (case hd1 => rfl); (case hg2 => rfl); (case hd2 => rfl); (case ho2 => rfl); (case hr => first | (go_simp; done) | (go_simp; rfl)); (case hrm => first | rfl | (go_simp; done) | (go_simp; rfl)); (case hp => rfl); (case hx => rfl); (case hs => rfl); (case h1 => rfl); (case ht => kernel_rfl); intro gb219 hg w11 hbox hb; have n0_ := Aside0.mk (Kd.S_below (Kd.S_elderB (ks_ HO_3.out) gb219 (Nat.le_of_eq hg.symm)) hb); have n1_ := Aside0.mk (below_step lb_ hb); have n2_ := Aside0.mk (hbox); have n3_ := Aside0.mk ((by rw [hg]; exact (below_size lb_) : w.heap.size ≤ gb219)); have n4_ := Aside0.mk ((by rw [hg]; exact (below_size lb_) : w.heap.size ≤ gb219)); clear HO_3; clear HB; have HO_3 := n0_; have HB := n1_; have BK219 := n2_; have GW219 := n3_; have GE219 := n4_; clear n0_ n1_ n2_ n3_ n4_; clear hb hbox hg; have q12 : ((ji5) : Int) ≤ ((l0.length : Int) : Int) := of_decide_eq_true (by first | (with_reducible assumption) | assumption); obtain ⟨i012, hi012, _, hsz12, _⟩ := info_parts info44; have hroom12 : l0.length ≤ c0 := HC0.out; have hC12 : Kd.C k44 _ (some ad218) l0.length l0 := HR0.out; have q012 : (0 : Int) ≤ ((ji5) : Int) := of_decide_eq_true (by first | (with_reducible assumption) | assumption); have hcut12 := cut_from (P := Try.prog) 22 44 .i64 Try.underlying22 hi012 25 hsz12 (some ad218) l0.length c0 (ji5) q012 q12; have hr12 := Kd.C_drop (m := ((ji5) : Int).toNat) (c := c0) hC12 (by omega) hroom12; obtain ⟨A12, hA12⟩ : ∃ A1, A1 = (if c0 = ((ji5) : Int).toNat then (some ad218) else ((some ad218) : Option Addr).map (·.add (((ji5) : Int).toNat * 25))) := ⟨_, rfl⟩; obtain ⟨c12, hc12⟩ : ∃ c1, c1 = c0 - ((ji5) : Int).toNat := ⟨_, rfl⟩; have hy12 : y220.length = l0.length - ((ji5) : Int).toNat := (by rw [Ny220.out, List.length_drop] <;> omega); rw [show (l0).drop ((ji5) : Int).toNat = y220 from Ny220.out.symm] at hr12; replace hr12 : Kd.C k44 _ A12 y220.length y220 := (by rw [hA12]; exact hr12); rw [← hy12, ← hA12, ← hc12] at hcut12; have HR223 := Aside0.mk hr12; have HC223 := Aside0.mk (show y220.length ≤ c12 from by rw [hy12, hc12]; exact Nat.sub_le_sub_right hroom12 _); clear hr12 hC12 hroom12 hi012 hsz12 hc12; have KY12 := Aside0.mk hy12; have KA12 := Aside0.mk hA12; clear hy12 hA12; replace q12 := eq_true q12) | (go_at_call 32; (with_reducible refine (api_Record.calls _ _ y220 ((rd_T44 l0 x9_1).f0.f0) ((rd_T44 l0 x9_1).f0.f1) true _ ?side1 ?side2 ?side3 ?side4 A8.out).mono ?_); (case side1 => exact kc_ (Kd.C_below HR223.out HB.out)); (case side2 => exact HC223.out); (case side3 => refine CapC.mk (show _ = some (Obj.cells #[.int .i64 ((rd_T44 l0 x9_1).f0.f0), .int .i64 ((rd_T44 l0 x9_1).f0.f1), .int .i64 ((rd_T44 l0 x9_1).f1), .int .i64 ((rd_T44 l0 x9_1).f2.f0), .int .i64 ((rd_T44 l0 x9_1).f2.f1), .int .i64 ((rd_T44 l0 x9_1).f3.f0), .int .i64 ((rd_T44 l0 x9_1).f3.f1), .int .i64 ((rd_T44 l0 x9_1).f4.f0), .int .i64 ((rd_T44 l0 x9_1).f4.f1.f0), .int .i64 ((rd_T44 l0 x9_1).f4.f1.f1), .int .i64 ((rd_T44 l0 x9_1).f4.f2.f0), .int .i64 ((rd_T44 l0 x9_1).f4.f2.f1), .int .i64 ((rd_T44 l0 x9_1).f4.f3), .slice A218_13 ((rd_T44 l0 x9_1).f4.f4).length c218_13, .slice A218_14 ((rd_T44 l0 x9_1).f4.f5).length c218_14, .bool ((rd_T44 l0 x9_1).f4.f6), .int .i64 ((rd_T44 l0 x9_1).f5), .int .i64 ((rd_T44 l0 x9_1).f6.f0), .int .i64 ((rd_T44 l0 x9_1).f6.f1), .int .i64 ((rd_T44 l0 x9_1).f6.f2), .int .i64 ((rd_T44 l0 x9_1).f6.f3), .int .i64 ((rd_T44 l0 x9_1).f6.f4), .int .i64 ((rd_T44 l0 x9_1).f6.f5), .int .i64 ((rd_T44 l0 x9_1).f6.f6), .bool ((rd_T44 l0 x9_1).f7)] 44 (0, 0)) from ?_) rfl; (with_reducible repeat (first | refine blk_drewN ?_ _ | refine blk_drew ?_ | refine blk_alloc ?_ _)); exact BK219.out); (case side4 => refine CapC.mk (show _ = some (Obj.cells #[.int .i64 ((rd_T44 l0 x9_1).f0.f0), .int .i64 ((rd_T44 l0 x9_1).f0.f1), .int .i64 ((rd_T44 l0 x9_1).f1), .int .i64 ((rd_T44 l0 x9_1).f2.f0), .int .i64 ((rd_T44 l0 x9_1).f2.f1), .int .i64 ((rd_T44 l0 x9_1).f3.f0), .int .i64 ((rd_T44 l0 x9_1).f3.f1), .int .i64 ((rd_T44 l0 x9_1).f4.f0), .int .i64 ((rd_T44 l0 x9_1).f4.f1.f0), .int .i64 ((rd_T44 l0 x9_1).f4.f1.f1), .int .i64 ((rd_T44 l0 x9_1).f4.f2.f0), .int .i64 ((rd_T44 l0 x9_1).f4.f2.f1), .int .i64 ((rd_T44 l0 x9_1).f4.f3), .slice A218_13 ((rd_T44 l0 x9_1).f4.f4).length c218_13, .slice A218_14 ((rd_T44 l0 x9_1).f4.f5).length c218_14, .bool ((rd_T44 l0 x9_1).f4.f6), .int .i64 ((rd_T44 l0 x9_1).f5), .int .i64 ((rd_T44 l0 x9_1).f6.f0), .int .i64 ((rd_T44 l0 x9_1).f6.f1), .int .i64 ((rd_T44 l0 x9_1).f6.f2), .int .i64 ((rd_T44 l0 x9_1).f6.f3), .int .i64 ((rd_T44 l0 x9_1).f6.f4), .int .i64 ((rd_T44 l0 x9_1).f6.f5), .int .i64 ((rd_T44 l0 x9_1).f6.f6), .bool ((rd_T44 l0 x9_1).f7)] 44 (0, 0)) from ?_) rfl; (with_reducible repeat (first | refine blk_drewN ?_ _ | refine blk_drew ?_ | refine blk_alloc ?_ _)); exact BK219.out); rintro e w13 ⟨rfl, hb⟩; have n0_ := Aside0.mk (Kd.S_below (ks_ HO_3.out) hb); have n1_ := Aside0.mk (blk_below (kb_ BK219.out) hb); have n2_ := Aside0.mk (below_step (by repeat (first | (with_reducible first | exact HB.out | apply below_alloc | apply pw_below_drewN | apply below_drew1 | refine below_set ?_ GE219.out) | exact HB.out)) hb); clear HO_3; clear BK219; clear HB; have HO_3 := n0_; have BK219 := n1_; have HB := n2_; clear n0_ n1_ n2_; (try clear hb); (try clear hb2); (try clear hk); (try clear hi)))
               go_roundg k1
               case measure => have := HK1.out; omega
               case rel => exact ⟨(x3_1), (ji5), (by first | rfl | (simp; done) | (simp only [← hji5] <;> (first | rfl | (simp; done))) | (simp [*]; done) | (subst_vars; simp only [mx_eq, mn_eq]; done)), H', ⟨by have := HK1.out; omega⟩, ⟨by (with_reducible repeat (first | apply Kd.S_alloc | apply Kd.S_drewN | apply Kd.S_drew)); exact Kd.S_mono HO_3.out (fun _ hk => trivial)⟩, ⟨by repeat (first | (with_reducible first | exact HB.out | apply below_alloc | apply pw_below_drewN | apply below_drew1 | refine below_set ?_ GE219.out) | exact HB.out)⟩⟩
             · replace c9 := Bool.eq_false_iff.mpr c9
               subst c9
               rw [if_neg (show ¬ (false = true) by decide)] at H
               replace H := Option.bind_eq_some_iff.mp H
               obtain ⟨⟨t225, t226, t227, t228, t229, t230, t231, t234, t237⟩, A140, H⟩ := H
               replace H : (if x3_1.length < 606627104979 then (index_Known.l0 k1 l0 (x3_1 ++ [(⟨(⟨(rd_T44 l0 x9_1).f0.f0, (rd_T44 l0 x9_1).f0.f1⟩ : S24), (rd_T44 l0 x9_1).f1, (⟨(rd_T44 l0 x9_1).f2.f0, (rd_T44 l0 x9_1).f2.f1⟩ : S40), (⟨(rd_T44 l0 x9_1).f3.f0, (rd_T44 l0 x9_1).f3.f1⟩ : S40), (⟨t225, (⟨t226, t227⟩ : S26), (⟨t228, t229⟩ : S28), t230, t231, t234, t237⟩ : S32), (rd_T44 l0 x9_1).f5, (⟨(rd_T44 l0 x9_1).f6.f0, (rd_T44 l0 x9_1).f6.f1, (rd_T44 l0 x9_1).f6.f2, (rd_T44 l0 x9_1).f6.f3, (rd_T44 l0 x9_1).f6.f4, (rd_T44 l0 x9_1).f6.f5, (rd_T44 l0 x9_1).f6.f6⟩ : S42), (rd_T44 l0 x9_1).f7⟩ : S44)]) l0 (l0.length : Int) ji5) else (none)) = some r := H
               have A14 := Aside0.mk A140
               clear A140
               by_cases c15 : x3_1.length < 606627104979
               · rw [if_pos c15] at H
                 have LMc15 := Aside0.mk c15
                 clear c15
                 obtain ⟨y238, hy238⟩ : ∃ y_ : List (S44), y_ = (x3_1 ++ [(⟨(⟨(rd_T44 l0 x9_1).f0.f0, (rd_T44 l0 x9_1).f0.f1⟩ : S24), (rd_T44 l0 x9_1).f1, (⟨(rd_T44 l0 x9_1).f2.f0, (rd_T44 l0 x9_1).f2.f1⟩ : S40), (⟨(rd_T44 l0 x9_1).f3.f0, (rd_T44 l0 x9_1).f3.f1⟩ : S40), (⟨t225, (⟨t226, t227⟩ : S26), (⟨t228, t229⟩ : S28), t230, t231, t234, t237⟩ : S32), (rd_T44 l0 x9_1).f5, (⟨(rd_T44 l0 x9_1).f6.f0, (rd_T44 l0 x9_1).f6.f1, (rd_T44 l0 x9_1).f6.f2, (rd_T44 l0 x9_1).f6.f3, (rd_T44 l0 x9_1).f6.f4, (rd_T44 l0 x9_1).f6.f5, (rd_T44 l0 x9_1).f6.f6⟩ : S42), (rd_T44 l0 x9_1).f7⟩ : S44)]) := ⟨_, rfl⟩
                 replace H : (index_Known.l0 k1 l0 y238 l0 (l0.length : Int) ji5) = some r := by first | (rw [hy238]; with_reducible exact H) | (have H2_ := (Option.bind_some _ _).symm.trans H; rw [hy238]; with_reducible exact H2_) | (have H2_ := (Option.bind_some _ _).symm.trans H; with_reducible exact H2_) | with_reducible exact H | (rw [hy238]; exact H) | exact H
                 have Ny238 := Aside0.mk hy238
                 clear hy238
                 have H' := Aside0.mk H
                 clear H
                 have p218 : 0 ≤ (x9_1 : Int) := of_decide_eq_true (by first | (with_reducible assumption) | assumption)
                 have q218 : x9_1 < (l0.length : Int) := of_decide_eq_true (by first | (with_reducible assumption) | assumption)
                 obtain ⟨ad218, A218_13, c218_13, A218_14, c218_14, e218, hx218_0, hx218_1, hx218_2, hx218_3, hx218_4, hx218_5, hx218_6, hx218_7, hx218_8, hx218_9, hx218_10, hx218_11, hx218_12, hx218_13, hx218_14, hx218_15, hx218_16, hx218_17, hx218_18, hx218_19, hx218_20, hx218_21, hx218_22, hx218_23, hx218_24, hl218_13, hi218_13, hl218_14, hi218_14⟩ := at_T44 HR0.out x9_1 p218 q218
                 cases e218
                 replace hx218_0 := (HB.out.cell (World.block_lt_of_cell? w _ hx218_0)).trans hx218_0
                 replace hx218_1 := (HB.out.cell (World.block_lt_of_cell? w _ hx218_1)).trans hx218_1
                 replace hx218_2 := (HB.out.cell (World.block_lt_of_cell? w _ hx218_2)).trans hx218_2
                 replace hx218_3 := (HB.out.cell (World.block_lt_of_cell? w _ hx218_3)).trans hx218_3
                 replace hx218_4 := (HB.out.cell (World.block_lt_of_cell? w _ hx218_4)).trans hx218_4
                 replace hx218_5 := (HB.out.cell (World.block_lt_of_cell? w _ hx218_5)).trans hx218_5
                 replace hx218_6 := (HB.out.cell (World.block_lt_of_cell? w _ hx218_6)).trans hx218_6
                 replace hx218_7 := (HB.out.cell (World.block_lt_of_cell? w _ hx218_7)).trans hx218_7
                 replace hx218_8 := (HB.out.cell (World.block_lt_of_cell? w _ hx218_8)).trans hx218_8
                 replace hx218_9 := (HB.out.cell (World.block_lt_of_cell? w _ hx218_9)).trans hx218_9
                 replace hx218_10 := (HB.out.cell (World.block_lt_of_cell? w _ hx218_10)).trans hx218_10
                 replace hx218_11 := (HB.out.cell (World.block_lt_of_cell? w _ hx218_11)).trans hx218_11
                 replace hx218_12 := (HB.out.cell (World.block_lt_of_cell? w _ hx218_12)).trans hx218_12
                 replace hx218_13 := (HB.out.cell (World.block_lt_of_cell? w _ hx218_13)).trans hx218_13
                 replace hx218_14 := (HB.out.cell (World.block_lt_of_cell? w _ hx218_14)).trans hx218_14
                 replace hx218_15 := (HB.out.cell (World.block_lt_of_cell? w _ hx218_15)).trans hx218_15
                 replace hx218_16 := (HB.out.cell (World.block_lt_of_cell? w _ hx218_16)).trans hx218_16
                 replace hx218_17 := (HB.out.cell (World.block_lt_of_cell? w _ hx218_17)).trans hx218_17
                 replace hx218_18 := (HB.out.cell (World.block_lt_of_cell? w _ hx218_18)).trans hx218_18
                 replace hx218_19 := (HB.out.cell (World.block_lt_of_cell? w _ hx218_19)).trans hx218_19
                 replace hx218_20 := (HB.out.cell (World.block_lt_of_cell? w _ hx218_20)).trans hx218_20
                 replace hx218_21 := (HB.out.cell (World.block_lt_of_cell? w _ hx218_21)).trans hx218_21
                 replace hx218_22 := (HB.out.cell (World.block_lt_of_cell? w _ hx218_22)).trans hx218_22
                 replace hx218_23 := (HB.out.cell (World.block_lt_of_cell? w _ hx218_23)).trans hx218_23
                 replace hx218_24 := (HB.out.cell (World.block_lt_of_cell? w _ hx218_24)).trans hx218_24
                 have HR218_13 := Aside0.mk hi218_13
                 have HC218_13 := Aside0.mk hl218_13
                 clear hi218_13 hl218_13
                 have HR218_14 := Aside0.mk hi218_14
                 have HC218_14 := Aside0.mk hl218_14
                 clear hi218_14 hl218_14
                 replace p218 := eq_true p218
                 replace q218 := eq_true q218
                 go_wp2_with (first | ((with_reducible refine gate_dst (N := 13) rfl ?_); refine cells_load_event ?lg (N := 13) ?ld (t := 44) (x := ?lxxz16) ?lo (p := ?lppz16) ?lx (v := .int .i64 ((rd_T44 l0 x9_1).f0.f0)) (cs := [.int .i64 ((rd_T44 l0 x9_1).f0.f1), .int .i64 ((rd_T44 l0 x9_1).f1), .int .i64 ((rd_T44 l0 x9_1).f2.f0), .int .i64 ((rd_T44 l0 x9_1).f2.f1), .int .i64 ((rd_T44 l0 x9_1).f3.f0), .int .i64 ((rd_T44 l0 x9_1).f3.f1), .int .i64 ((rd_T44 l0 x9_1).f4.f0), .int .i64 ((rd_T44 l0 x9_1).f4.f1.f0), .int .i64 ((rd_T44 l0 x9_1).f4.f1.f1), .int .i64 ((rd_T44 l0 x9_1).f4.f2.f0), .int .i64 ((rd_T44 l0 x9_1).f4.f2.f1), .int .i64 ((rd_T44 l0 x9_1).f4.f3), .slice A218_13 ((rd_T44 l0 x9_1).f4.f4).length c218_13, .slice A218_14 ((rd_T44 l0 x9_1).f4.f5).length c218_14, .bool ((rd_T44 l0 x9_1).f4.f6), .int .i64 ((rd_T44 l0 x9_1).f5), .int .i64 ((rd_T44 l0 x9_1).f6.f0), .int .i64 ((rd_T44 l0 x9_1).f6.f1), .int .i64 ((rd_T44 l0 x9_1).f6.f2), .int .i64 ((rd_T44 l0 x9_1).f6.f3), .int .i64 ((rd_T44 l0 x9_1).f6.f4), .int .i64 ((rd_T44 l0 x9_1).f6.f5), .int .i64 ((rd_T44 l0 x9_1).f6.f6), .bool ((rd_T44 l0 x9_1).f7)]) ?lD ?lt ?l0 ?lc ?_; (case lg => rfl); (case ld => rfl); (case lo => rfl); (case lx => first | rfl | (go_simp; done) | (go_simp; rfl)); (case lD => exact ⟨_, Try.underlying44, rfl⟩); (case lt => kernel_rfl); (case l0 => exact hx218_0); (case lc => exact ⟨hx218_1, hx218_2, hx218_3, hx218_4, hx218_5, hx218_6, hx218_7, hx218_8, hx218_9, hx218_10, hx218_11, hx218_12, hx218_13, hx218_14, hx218_15, hx218_16, hx218_17, hx218_18, hx218_19, hx218_20, hx218_21, hx218_22, hx218_23, hx218_24, trivial⟩)) | ((with_reducible refine gate_dst (N := 5) rfl ?_); refine alloc_mid_store_event (v := ?vvw17) ?hg1 (N := 5) ?hd1 ?hgm ?hg2 ?hd2 ?ho2 (cs0 := #[.int .i64 0, .int .i64 0, .int .i64 0, .int .i64 0, .int .i64 0, .int .i64 0, .int .i64 0, .int .i64 0, .int .i64 0, .int .i64 0, .int .i64 0, .int .i64 0, .int .i64 0, .slice none 0 0, .slice none 0 0, .bool false, .int .i64 0, .int .i64 0, .int .i64 0, .int .i64 0, .int .i64 0, .int .i64 0, .int .i64 0, .int .i64 0, .bool false]) (cs := #[.int .i64 ((rd_T44 l0 x9_1).f0.f0), .int .i64 ((rd_T44 l0 x9_1).f0.f1), .int .i64 ((rd_T44 l0 x9_1).f1), .int .i64 ((rd_T44 l0 x9_1).f2.f0), .int .i64 ((rd_T44 l0 x9_1).f2.f1), .int .i64 ((rd_T44 l0 x9_1).f3.f0), .int .i64 ((rd_T44 l0 x9_1).f3.f1), .int .i64 ((rd_T44 l0 x9_1).f4.f0), .int .i64 ((rd_T44 l0 x9_1).f4.f1.f0), .int .i64 ((rd_T44 l0 x9_1).f4.f1.f1), .int .i64 ((rd_T44 l0 x9_1).f4.f2.f0), .int .i64 ((rd_T44 l0 x9_1).f4.f2.f1), .int .i64 ((rd_T44 l0 x9_1).f4.f3), .slice A218_13 ((rd_T44 l0 x9_1).f4.f4).length c218_13, .slice A218_14 ((rd_T44 l0 x9_1).f4.f5).length c218_14, .bool ((rd_T44 l0 x9_1).f4.f6), .int .i64 ((rd_T44 l0 x9_1).f5), .int .i64 ((rd_T44 l0 x9_1).f6.f0), .int .i64 ((rd_T44 l0 x9_1).f6.f1), .int .i64 ((rd_T44 l0 x9_1).f6.f2), .int .i64 ((rd_T44 l0 x9_1).f6.f3), .int .i64 ((rd_T44 l0 x9_1).f6.f4), .int .i64 ((rd_T44 l0 x9_1).f6.f5), .int .i64 ((rd_T44 l0 x9_1).f6.f6), .bool ((rd_T44 l0 x9_1).f7)]) (t := 44) (x := ?xxw17) ?hr ?hrm ?hp ?hx ?hs ?h1 ?ht ?_; (case hg1 => rfl); (case hgm => rfl); (case hd1 => rfl); (case hg2 => rfl); (case hd2 => rfl); (case ho2 => rfl); (case hr => first | (go_simp; done) | (go_simp; rfl)); (case hrm => first | rfl | (go_simp; done) | (go_simp; rfl)); (case hp => rfl); (case hx => rfl); (case hs => rfl); (case h1 => rfl); (case ht => kernel_rfl); intro gb219 hg w17 hbox hb; have n0_ := Aside0.mk (Kd.S_below (Kd.S_elderB (ks_ HO_3.out) gb219 (Nat.le_of_eq hg.symm)) hb); have n1_ := Aside0.mk (below_step lb_ hb); have n2_ := Aside0.mk (hbox); have n3_ := Aside0.mk ((by rw [hg]; exact (below_size lb_) : w.heap.size ≤ gb219)); have n4_ := Aside0.mk ((by rw [hg]; exact (below_size lb_) : w.heap.size ≤ gb219)); clear HO_3; clear HB; have HO_3 := n0_; have HB := n1_; have BK219 := n2_; have GW219 := n3_; have GE219 := n4_; clear n0_ n1_ n2_ n3_ n4_; clear hb hbox hg; have q18 : ((ji5) : Int) ≤ ((l0.length : Int) : Int) := of_decide_eq_true (by first | (with_reducible assumption) | assumption); obtain ⟨i018, hi018, _, hsz18, _⟩ := info_parts info44; have hroom18 : l0.length ≤ c0 := HC0.out; have hC18 : Kd.C k44 _ (some ad218) l0.length l0 := HR0.out; have q018 : (0 : Int) ≤ ((ji5) : Int) := of_decide_eq_true (by first | (with_reducible assumption) | assumption); have hcut18 := cut_from (P := Try.prog) 22 44 .i64 Try.underlying22 hi018 25 hsz18 (some ad218) l0.length c0 (ji5) q018 q18; have hr18 := Kd.C_drop (m := ((ji5) : Int).toNat) (c := c0) hC18 (by omega) hroom18; obtain ⟨A18, hA18⟩ : ∃ A1, A1 = (if c0 = ((ji5) : Int).toNat then (some ad218) else ((some ad218) : Option Addr).map (·.add (((ji5) : Int).toNat * 25))) := ⟨_, rfl⟩; obtain ⟨c18, hc18⟩ : ∃ c1, c1 = c0 - ((ji5) : Int).toNat := ⟨_, rfl⟩; have hy18 : y220.length = l0.length - ((ji5) : Int).toNat := (by rw [Ny220.out, List.length_drop] <;> omega); rw [show (l0).drop ((ji5) : Int).toNat = y220 from Ny220.out.symm] at hr18; replace hr18 : Kd.C k44 _ A18 y220.length y220 := (by rw [hA18]; exact hr18); rw [← hy18, ← hA18, ← hc18] at hcut18; have HR223 := Aside0.mk hr18; have HC223 := Aside0.mk (show y220.length ≤ c18 from by rw [hy18, hc18]; exact Nat.sub_le_sub_right hroom18 _); clear hr18 hC18 hroom18 hi018 hsz18 hc18; have KY18 := Aside0.mk hy18; have KA18 := Aside0.mk hA18; clear hy18 hA18; replace q18 := eq_true q18) | (go_at_call 32; (with_reducible refine (api_Record.calls _ _ y220 ((rd_T44 l0 x9_1).f0.f0) ((rd_T44 l0 x9_1).f0.f1) false _ ?side1 ?side2 ?side3 ?side4 A8.out).mono ?_); (case side1 => exact kc_ (Kd.C_below HR223.out HB.out)); (case side2 => exact HC223.out); (case side3 => refine CapC.mk (show _ = some (Obj.cells #[.int .i64 ((rd_T44 l0 x9_1).f0.f0), .int .i64 ((rd_T44 l0 x9_1).f0.f1), .int .i64 ((rd_T44 l0 x9_1).f1), .int .i64 ((rd_T44 l0 x9_1).f2.f0), .int .i64 ((rd_T44 l0 x9_1).f2.f1), .int .i64 ((rd_T44 l0 x9_1).f3.f0), .int .i64 ((rd_T44 l0 x9_1).f3.f1), .int .i64 ((rd_T44 l0 x9_1).f4.f0), .int .i64 ((rd_T44 l0 x9_1).f4.f1.f0), .int .i64 ((rd_T44 l0 x9_1).f4.f1.f1), .int .i64 ((rd_T44 l0 x9_1).f4.f2.f0), .int .i64 ((rd_T44 l0 x9_1).f4.f2.f1), .int .i64 ((rd_T44 l0 x9_1).f4.f3), .slice A218_13 ((rd_T44 l0 x9_1).f4.f4).length c218_13, .slice A218_14 ((rd_T44 l0 x9_1).f4.f5).length c218_14, .bool ((rd_T44 l0 x9_1).f4.f6), .int .i64 ((rd_T44 l0 x9_1).f5), .int .i64 ((rd_T44 l0 x9_1).f6.f0), .int .i64 ((rd_T44 l0 x9_1).f6.f1), .int .i64 ((rd_T44 l0 x9_1).f6.f2), .int .i64 ((rd_T44 l0 x9_1).f6.f3), .int .i64 ((rd_T44 l0 x9_1).f6.f4), .int .i64 ((rd_T44 l0 x9_1).f6.f5), .int .i64 ((rd_T44 l0 x9_1).f6.f6), .bool ((rd_T44 l0 x9_1).f7)] 44 (0, 0)) from ?_) rfl; (with_reducible repeat (first | refine blk_drewN ?_ _ | refine blk_drew ?_ | refine blk_alloc ?_ _)); exact BK219.out); (case side4 => refine CapC.mk (show _ = some (Obj.cells #[.int .i64 ((rd_T44 l0 x9_1).f0.f0), .int .i64 ((rd_T44 l0 x9_1).f0.f1), .int .i64 ((rd_T44 l0 x9_1).f1), .int .i64 ((rd_T44 l0 x9_1).f2.f0), .int .i64 ((rd_T44 l0 x9_1).f2.f1), .int .i64 ((rd_T44 l0 x9_1).f3.f0), .int .i64 ((rd_T44 l0 x9_1).f3.f1), .int .i64 ((rd_T44 l0 x9_1).f4.f0), .int .i64 ((rd_T44 l0 x9_1).f4.f1.f0), .int .i64 ((rd_T44 l0 x9_1).f4.f1.f1), .int .i64 ((rd_T44 l0 x9_1).f4.f2.f0), .int .i64 ((rd_T44 l0 x9_1).f4.f2.f1), .int .i64 ((rd_T44 l0 x9_1).f4.f3), .slice A218_13 ((rd_T44 l0 x9_1).f4.f4).length c218_13, .slice A218_14 ((rd_T44 l0 x9_1).f4.f5).length c218_14, .bool ((rd_T44 l0 x9_1).f4.f6), .int .i64 ((rd_T44 l0 x9_1).f5), .int .i64 ((rd_T44 l0 x9_1).f6.f0), .int .i64 ((rd_T44 l0 x9_1).f6.f1), .int .i64 ((rd_T44 l0 x9_1).f6.f2), .int .i64 ((rd_T44 l0 x9_1).f6.f3), .int .i64 ((rd_T44 l0 x9_1).f6.f4), .int .i64 ((rd_T44 l0 x9_1).f6.f5), .int .i64 ((rd_T44 l0 x9_1).f6.f6), .bool ((rd_T44 l0 x9_1).f7)] 44 (0, 0)) from ?_) rfl; (with_reducible repeat (first | refine blk_drewN ?_ _ | refine blk_drew ?_ | refine blk_alloc ?_ _)); exact BK219.out); rintro e w19 ⟨rfl, hb⟩; have n0_ := Aside0.mk (Kd.S_below (ks_ HO_3.out) hb); have n1_ := Aside0.mk (blk_below (kb_ BK219.out) hb); have n2_ := Aside0.mk (below_step (by repeat (first | (with_reducible first | exact HB.out | apply below_alloc | apply pw_below_drewN | apply below_drew1 | refine below_set ?_ GE219.out) | exact HB.out)) hb); clear HO_3; clear BK219; clear HB; have HO_3 := n0_; have BK219 := n1_; have HB := n2_; clear n0_ n1_ n2_; (try clear hb); (try clear hb2); (try clear hk); (try clear hi); refine blk25_ BK219.out fun hcz20_0 hcz20_1 hcz20_2 hcz20_3 hcz20_4 hcz20_5 hcz20_6 hcz20_7 hcz20_8 hcz20_9 hcz20_10 hcz20_11 hcz20_12 hcz20_13 hcz20_14 hcz20_15 hcz20_16 hcz20_17 hcz20_18 hcz20_19 hcz20_20 hcz20_21 hcz20_22 hcz20_23 hcz20_24 hfz20_0 hfz20_1 hfz20_2 hfz20_3 hfz20_4 hfz20_5 hfz20_6 hfz20_7 hfz20_8 hfz20_9 hfz20_10 hfz20_11 hfz20_12 hfz20_13 hfz20_14 hfz20_15 hfz20_16 hfz20_17 hfz20_18 hfz20_19 hfz20_20 hfz20_21 hfz20_22 hfz20_23 hfz20_24 => ?_) | ((with_reducible refine gate_callee (f := 33) rfl ?_); refine goesL_ (some 24) rfl rfl Try.func33 (by kernel_rfl) rfl #[.agg #[.int .i64 ((rd_T44 l0 x9_1).f4.f0), .int .i64 ((rd_T44 l0 x9_1).f4.f1.f0), .int .i64 ((rd_T44 l0 x9_1).f4.f1.f1), .int .i64 ((rd_T44 l0 x9_1).f4.f2.f0), .int .i64 ((rd_T44 l0 x9_1).f4.f2.f1), .int .i64 ((rd_T44 l0 x9_1).f4.f3), .slice A218_13 ((rd_T44 l0 x9_1).f4.f4).length c218_13, .slice A218_14 ((rd_T44 l0 x9_1).f4.f5).length c218_14, .bool ((rd_T44 l0 x9_1).f4.f6)]] rfl (by (try simp only [List.map_toArray, List.map_cons, List.map_nil]); first | done | rfl | (simp only [List.length_drop, List.length_take]; rfl)) ?_; (with_reducible refine (command_Clone.calls ((rd_T44 l0 x9_1).f4.f0) ((rd_T44 l0 x9_1).f4.f1.f0) ((rd_T44 l0 x9_1).f4.f1.f1) ((rd_T44 l0 x9_1).f4.f2.f0) ((rd_T44 l0 x9_1).f4.f2.f1) ((rd_T44 l0 x9_1).f4.f3) _ _ ((rd_T44 l0 x9_1).f4.f4) _ _ ((rd_T44 l0 x9_1).f4.f5) ((rd_T44 l0 x9_1).f4.f6) t225 t226 t227 t228 t229 t230 t231 t234 t237 _ ?side1 ?side2 ?side3 ?side4 A14.out).mono ?_); (case side1 => exact kc_ (Kd.C_below HR218_13.out HB.out)); (case side2 => exact HC218_13.out); (case side3 => exact kc_ (Kd.C_below HR218_14.out HB.out)); (case side4 => exact HC218_14.out); rintro e w21 ⟨v232, v235, rfl, ho0, ho1, hb⟩; refine ⟨_, rfl, ?_⟩; have n0_ := Aside0.mk (Kd.S_mono (Kd.S_told (Kd.S_told (Kd.S_old (ks_ HO_3.out) hb) (Kd.R_base ho0)) (Kd.R_base ho1)) (fun _ h_ => h_.1)); have n1_ := Aside0.mk (Kd.R_lower ho0 (below_size (by repeat (first | (with_reducible first | exact HB.out | apply below_alloc | apply pw_below_drewN | apply below_drew1 | refine below_set ?_ GE219.out) | exact HB.out)))); have n2_ := Aside0.mk (Kd.R_lower ho1 (below_size (by repeat (first | (with_reducible first | exact HB.out | apply below_alloc | apply pw_below_drewN | apply below_drew1 | refine below_set ?_ GE219.out) | exact HB.out)))); have n3_ := Aside0.mk (blk_below (kb_ BK219.out) hb); have n4_ := Aside0.mk (below_step (by repeat (first | (with_reducible first | exact HB.out | apply below_alloc | apply pw_below_drewN | apply below_drew1 | refine below_set ?_ GE219.out) | exact HB.out)) hb); clear HO_3; clear BK219; clear HB; have HO_3 := n0_; have HO233 := n1_; have HO236 := n2_; have BK219 := n3_; have HB := n4_; clear n0_ n1_ n2_ n3_ n4_; (try clear hb); (try clear hb2); (try clear hk); (try clear hi); (try clear ho0); (try clear ho1); refine blk25_ BK219.out fun hcz22_0 hcz22_1 hcz22_2 hcz22_3 hcz22_4 hcz22_5 hcz22_6 hcz22_7 hcz22_8 hcz22_9 hcz22_10 hcz22_11 hcz22_12 hcz22_13 hcz22_14 hcz22_15 hcz22_16 hcz22_17 hcz22_18 hcz22_19 hcz22_20 hcz22_21 hcz22_22 hcz22_23 hcz22_24 hfz22_0 hfz22_1 hfz22_2 hfz22_3 hfz22_4 hfz22_5 hfz22_6 hfz22_7 hfz22_8 hfz22_9 hfz22_10 hfz22_11 hfz22_12 hfz22_13 hfz22_14 hfz22_15 hfz22_16 hfz22_17 hfz22_18 hfz22_19 hfz22_20 hfz22_21 hfz22_22 hfz22_23 hfz22_24 => ?_; obtain ⟨Ao23, co23, eo23⟩ := Kd.R_slice HO233.out; subst eo23; obtain ⟨Ao24, co24, eo24⟩ := Kd.R_slice HO236.out; subst eo24) | ((with_reducible refine gate_store (t := 32) (p := 25) rfl ?_); refine store_event (t := 32) (p := 25) (v := ?vo_w25) (w1 := (((((((((w21.setCell ⟨gb219, 7, none⟩ (.int .i64 t225)).setCell ⟨gb219, 8, none⟩ (.int .i64 t226)).setCell ⟨gb219, 9, none⟩ (.int .i64 t227)).setCell ⟨gb219, 10, none⟩ (.int .i64 t228)).setCell ⟨gb219, 11, none⟩ (.int .i64 t229)).setCell ⟨gb219, 12, none⟩ (.int .i64 t230)).setCell ⟨gb219, 13, none⟩ (.slice Ao23 t231.length co23)).setCell ⟨gb219, 14, none⟩ (.slice Ao24 t234.length co24)).setCell ⟨gb219, 15, none⟩ (.bool t237))) ?hg ?ho ?hn ?hr ?_; (case ho => rfl); (case hg => rfl); (case hn => rfl); (case hr => first | (go_simp; done) | (go_simp; rfl)); intro w25 hw; have n0_ : Aside0 (Kd.S k44 44 w25 w.heap.size (fun k_ => some k_ ≠ (.slice Ao23 t231.length co23 : Value).ownBlock ∧ some k_ ≠ (.slice Ao24 t234.length co24 : Value).ownBlock ∧ k_ ≠ gb219) u3 x3_1) := ⟨(by rw [hw]; exact (by (with_reducible repeat (first | apply Kd.S_alloc | apply Kd.S_drewN | apply Kd.S_drew)); exact Kd.S_mono (Kd.S_far (p := ⟨gb219, 15, none⟩) (Kd.S_far (p := ⟨gb219, 14, none⟩) (Kd.S_far (p := ⟨gb219, 13, none⟩) (Kd.S_far (p := ⟨gb219, 12, none⟩) (Kd.S_far (p := ⟨gb219, 11, none⟩) (Kd.S_far (p := ⟨gb219, 10, none⟩) (Kd.S_far (p := ⟨gb219, 9, none⟩) (Kd.S_far (p := ⟨gb219, 8, none⟩) (Kd.S_far (p := ⟨gb219, 7, none⟩) (Kd.S_mono HO_3.out (fun k_ hk => (⟨hk, hk.1.1.2⟩ : _ ∧ k_ ≠ gb219))) (fun _ hk => hk.2) (.int .i64 t225)) (fun _ hk => hk.2) (.int .i64 t226)) (fun _ hk => hk.2) (.int .i64 t227)) (fun _ hk => hk.2) (.int .i64 t228)) (fun _ hk => hk.2) (.int .i64 t229)) (fun _ hk => hk.2) (.int .i64 t230)) (fun _ hk => hk.2) (.slice Ao23 t231.length co23)) (fun _ hk => hk.2) (.slice Ao24 t234.length co24)) (fun _ hk => hk.2) (.bool t237)) (fun _ hk => ⟨hk.1.1.2, ⟨hk.1.2, hk.1.1.1.2⟩⟩)))⟩; have n1_ : Aside0 (Kd.R k61 61 w25 w.heap.size (fun _ => True) (.slice Ao23 t231.length co23) t231) := ⟨(by rw [hw]; exact (by (with_reducible repeat (first | apply Kd.R_alloc | apply Kd.R_drewN | apply Kd.R_drew)); exact Kd.R_mono (Kd.R_far (p := ⟨gb219, 15, none⟩) (Kd.R_far (p := ⟨gb219, 14, none⟩) (Kd.R_far (p := ⟨gb219, 13, none⟩) (Kd.R_far (p := ⟨gb219, 12, none⟩) (Kd.R_far (p := ⟨gb219, 11, none⟩) (Kd.R_far (p := ⟨gb219, 10, none⟩) (Kd.R_far (p := ⟨gb219, 9, none⟩) (Kd.R_far (p := ⟨gb219, 8, none⟩) (Kd.R_far (p := ⟨gb219, 7, none⟩) (Kd.R_types HO233.out BK219.out (by decide)) (fun _ hk => hk.2) (.int .i64 t225)) (fun _ hk => hk.2) (.int .i64 t226)) (fun _ hk => hk.2) (.int .i64 t227)) (fun _ hk => hk.2) (.int .i64 t228)) (fun _ hk => hk.2) (.int .i64 t229)) (fun _ hk => hk.2) (.int .i64 t230)) (fun _ hk => hk.2) (.slice Ao23 t231.length co23)) (fun _ hk => hk.2) (.slice Ao24 t234.length co24)) (fun _ hk => hk.2) (.bool t237)) (fun _ hk => trivial)))⟩; have n2_ : Aside0 (Kd.R k46 46 w25 w.heap.size (fun _ => True) (.slice Ao24 t234.length co24) t234) := ⟨(by rw [hw]; exact (by (with_reducible repeat (first | apply Kd.R_alloc | apply Kd.R_drewN | apply Kd.R_drew)); exact Kd.R_mono (Kd.R_far (p := ⟨gb219, 15, none⟩) (Kd.R_far (p := ⟨gb219, 14, none⟩) (Kd.R_far (p := ⟨gb219, 13, none⟩) (Kd.R_far (p := ⟨gb219, 12, none⟩) (Kd.R_far (p := ⟨gb219, 11, none⟩) (Kd.R_far (p := ⟨gb219, 10, none⟩) (Kd.R_far (p := ⟨gb219, 9, none⟩) (Kd.R_far (p := ⟨gb219, 8, none⟩) (Kd.R_far (p := ⟨gb219, 7, none⟩) (Kd.R_types HO236.out BK219.out (by decide)) (fun _ hk => hk.2) (.int .i64 t225)) (fun _ hk => hk.2) (.int .i64 t226)) (fun _ hk => hk.2) (.int .i64 t227)) (fun _ hk => hk.2) (.int .i64 t228)) (fun _ hk => hk.2) (.int .i64 t229)) (fun _ hk => hk.2) (.int .i64 t230)) (fun _ hk => hk.2) (.slice Ao23 t231.length co23)) (fun _ hk => hk.2) (.slice Ao24 t234.length co24)) (fun _ hk => hk.2) (.bool t237)) (fun _ hk => trivial)))⟩; have n3_ : Aside0 (w25.heap[gb219]? = some (.cells #[.int .i64 ((rd_T44 l0 x9_1).f0.f0), .int .i64 ((rd_T44 l0 x9_1).f0.f1), .int .i64 ((rd_T44 l0 x9_1).f1), .int .i64 ((rd_T44 l0 x9_1).f2.f0), .int .i64 ((rd_T44 l0 x9_1).f2.f1), .int .i64 ((rd_T44 l0 x9_1).f3.f0), .int .i64 ((rd_T44 l0 x9_1).f3.f1), .int .i64 t225, .int .i64 t226, .int .i64 t227, .int .i64 t228, .int .i64 t229, .int .i64 t230, .slice Ao23 t231.length co23, .slice Ao24 t234.length co24, .bool t237, .int .i64 ((rd_T44 l0 x9_1).f5), .int .i64 ((rd_T44 l0 x9_1).f6.f0), .int .i64 ((rd_T44 l0 x9_1).f6.f1), .int .i64 ((rd_T44 l0 x9_1).f6.f2), .int .i64 ((rd_T44 l0 x9_1).f6.f3), .int .i64 ((rd_T44 l0 x9_1).f6.f4), .int .i64 ((rd_T44 l0 x9_1).f6.f5), .int .i64 ((rd_T44 l0 x9_1).f6.f6), .bool ((rd_T44 l0 x9_1).f7)] 44 (0, 0))) := ⟨(by rw [hw]; exact (by (with_reducible repeat (first | refine blk_drewN ?_ _ | refine blk_drew ?_ | refine blk_alloc ?_ _)); refine blk_put (cs := #[.int .i64 ((rd_T44 l0 x9_1).f0.f0), .int .i64 ((rd_T44 l0 x9_1).f0.f1), .int .i64 ((rd_T44 l0 x9_1).f1), .int .i64 ((rd_T44 l0 x9_1).f2.f0), .int .i64 ((rd_T44 l0 x9_1).f2.f1), .int .i64 ((rd_T44 l0 x9_1).f3.f0), .int .i64 ((rd_T44 l0 x9_1).f3.f1), .int .i64 t225, .int .i64 t226, .int .i64 t227, .int .i64 t228, .int .i64 t229, .int .i64 t230, .slice Ao23 t231.length co23, .slice Ao24 t234.length co24, .bool ((rd_T44 l0 x9_1).f4.f6), .int .i64 ((rd_T44 l0 x9_1).f5), .int .i64 ((rd_T44 l0 x9_1).f6.f0), .int .i64 ((rd_T44 l0 x9_1).f6.f1), .int .i64 ((rd_T44 l0 x9_1).f6.f2), .int .i64 ((rd_T44 l0 x9_1).f6.f3), .int .i64 ((rd_T44 l0 x9_1).f6.f4), .int .i64 ((rd_T44 l0 x9_1).f6.f5), .int .i64 ((rd_T44 l0 x9_1).f6.f6), .bool ((rd_T44 l0 x9_1).f7)]) ?_ 15 _ rfl; (with_reducible repeat (first | refine blk_drewN ?_ _ | refine blk_drew ?_ | refine blk_alloc ?_ _)); refine blk_put (cs := #[.int .i64 ((rd_T44 l0 x9_1).f0.f0), .int .i64 ((rd_T44 l0 x9_1).f0.f1), .int .i64 ((rd_T44 l0 x9_1).f1), .int .i64 ((rd_T44 l0 x9_1).f2.f0), .int .i64 ((rd_T44 l0 x9_1).f2.f1), .int .i64 ((rd_T44 l0 x9_1).f3.f0), .int .i64 ((rd_T44 l0 x9_1).f3.f1), .int .i64 t225, .int .i64 t226, .int .i64 t227, .int .i64 t228, .int .i64 t229, .int .i64 t230, .slice Ao23 t231.length co23, .slice A218_14 ((rd_T44 l0 x9_1).f4.f5).length c218_14, .bool ((rd_T44 l0 x9_1).f4.f6), .int .i64 ((rd_T44 l0 x9_1).f5), .int .i64 ((rd_T44 l0 x9_1).f6.f0), .int .i64 ((rd_T44 l0 x9_1).f6.f1), .int .i64 ((rd_T44 l0 x9_1).f6.f2), .int .i64 ((rd_T44 l0 x9_1).f6.f3), .int .i64 ((rd_T44 l0 x9_1).f6.f4), .int .i64 ((rd_T44 l0 x9_1).f6.f5), .int .i64 ((rd_T44 l0 x9_1).f6.f6), .bool ((rd_T44 l0 x9_1).f7)]) ?_ 14 _ rfl; (with_reducible repeat (first | refine blk_drewN ?_ _ | refine blk_drew ?_ | refine blk_alloc ?_ _)); refine blk_put (cs := #[.int .i64 ((rd_T44 l0 x9_1).f0.f0), .int .i64 ((rd_T44 l0 x9_1).f0.f1), .int .i64 ((rd_T44 l0 x9_1).f1), .int .i64 ((rd_T44 l0 x9_1).f2.f0), .int .i64 ((rd_T44 l0 x9_1).f2.f1), .int .i64 ((rd_T44 l0 x9_1).f3.f0), .int .i64 ((rd_T44 l0 x9_1).f3.f1), .int .i64 t225, .int .i64 t226, .int .i64 t227, .int .i64 t228, .int .i64 t229, .int .i64 t230, .slice A218_13 ((rd_T44 l0 x9_1).f4.f4).length c218_13, .slice A218_14 ((rd_T44 l0 x9_1).f4.f5).length c218_14, .bool ((rd_T44 l0 x9_1).f4.f6), .int .i64 ((rd_T44 l0 x9_1).f5), .int .i64 ((rd_T44 l0 x9_1).f6.f0), .int .i64 ((rd_T44 l0 x9_1).f6.f1), .int .i64 ((rd_T44 l0 x9_1).f6.f2), .int .i64 ((rd_T44 l0 x9_1).f6.f3), .int .i64 ((rd_T44 l0 x9_1).f6.f4), .int .i64 ((rd_T44 l0 x9_1).f6.f5), .int .i64 ((rd_T44 l0 x9_1).f6.f6), .bool ((rd_T44 l0 x9_1).f7)]) ?_ 13 _ rfl; (with_reducible repeat (first | refine blk_drewN ?_ _ | refine blk_drew ?_ | refine blk_alloc ?_ _)); refine blk_put (cs := #[.int .i64 ((rd_T44 l0 x9_1).f0.f0), .int .i64 ((rd_T44 l0 x9_1).f0.f1), .int .i64 ((rd_T44 l0 x9_1).f1), .int .i64 ((rd_T44 l0 x9_1).f2.f0), .int .i64 ((rd_T44 l0 x9_1).f2.f1), .int .i64 ((rd_T44 l0 x9_1).f3.f0), .int .i64 ((rd_T44 l0 x9_1).f3.f1), .int .i64 t225, .int .i64 t226, .int .i64 t227, .int .i64 t228, .int .i64 t229, .int .i64 ((rd_T44 l0 x9_1).f4.f3), .slice A218_13 ((rd_T44 l0 x9_1).f4.f4).length c218_13, .slice A218_14 ((rd_T44 l0 x9_1).f4.f5).length c218_14, .bool ((rd_T44 l0 x9_1).f4.f6), .int .i64 ((rd_T44 l0 x9_1).f5), .int .i64 ((rd_T44 l0 x9_1).f6.f0), .int .i64 ((rd_T44 l0 x9_1).f6.f1), .int .i64 ((rd_T44 l0 x9_1).f6.f2), .int .i64 ((rd_T44 l0 x9_1).f6.f3), .int .i64 ((rd_T44 l0 x9_1).f6.f4), .int .i64 ((rd_T44 l0 x9_1).f6.f5), .int .i64 ((rd_T44 l0 x9_1).f6.f6), .bool ((rd_T44 l0 x9_1).f7)]) ?_ 12 _ rfl; (with_reducible repeat (first | refine blk_drewN ?_ _ | refine blk_drew ?_ | refine blk_alloc ?_ _)); refine blk_put (cs := #[.int .i64 ((rd_T44 l0 x9_1).f0.f0), .int .i64 ((rd_T44 l0 x9_1).f0.f1), .int .i64 ((rd_T44 l0 x9_1).f1), .int .i64 ((rd_T44 l0 x9_1).f2.f0), .int .i64 ((rd_T44 l0 x9_1).f2.f1), .int .i64 ((rd_T44 l0 x9_1).f3.f0), .int .i64 ((rd_T44 l0 x9_1).f3.f1), .int .i64 t225, .int .i64 t226, .int .i64 t227, .int .i64 t228, .int .i64 ((rd_T44 l0 x9_1).f4.f2.f1), .int .i64 ((rd_T44 l0 x9_1).f4.f3), .slice A218_13 ((rd_T44 l0 x9_1).f4.f4).length c218_13, .slice A218_14 ((rd_T44 l0 x9_1).f4.f5).length c218_14, .bool ((rd_T44 l0 x9_1).f4.f6), .int .i64 ((rd_T44 l0 x9_1).f5), .int .i64 ((rd_T44 l0 x9_1).f6.f0), .int .i64 ((rd_T44 l0 x9_1).f6.f1), .int .i64 ((rd_T44 l0 x9_1).f6.f2), .int .i64 ((rd_T44 l0 x9_1).f6.f3), .int .i64 ((rd_T44 l0 x9_1).f6.f4), .int .i64 ((rd_T44 l0 x9_1).f6.f5), .int .i64 ((rd_T44 l0 x9_1).f6.f6), .bool ((rd_T44 l0 x9_1).f7)]) ?_ 11 _ rfl; (with_reducible repeat (first | refine blk_drewN ?_ _ | refine blk_drew ?_ | refine blk_alloc ?_ _)); refine blk_put (cs := #[.int .i64 ((rd_T44 l0 x9_1).f0.f0), .int .i64 ((rd_T44 l0 x9_1).f0.f1), .int .i64 ((rd_T44 l0 x9_1).f1), .int .i64 ((rd_T44 l0 x9_1).f2.f0), .int .i64 ((rd_T44 l0 x9_1).f2.f1), .int .i64 ((rd_T44 l0 x9_1).f3.f0), .int .i64 ((rd_T44 l0 x9_1).f3.f1), .int .i64 t225, .int .i64 t226, .int .i64 t227, .int .i64 ((rd_T44 l0 x9_1).f4.f2.f0), .int .i64 ((rd_T44 l0 x9_1).f4.f2.f1), .int .i64 ((rd_T44 l0 x9_1).f4.f3), .slice A218_13 ((rd_T44 l0 x9_1).f4.f4).length c218_13, .slice A218_14 ((rd_T44 l0 x9_1).f4.f5).length c218_14, .bool ((rd_T44 l0 x9_1).f4.f6), .int .i64 ((rd_T44 l0 x9_1).f5), .int .i64 ((rd_T44 l0 x9_1).f6.f0), .int .i64 ((rd_T44 l0 x9_1).f6.f1), .int .i64 ((rd_T44 l0 x9_1).f6.f2), .int .i64 ((rd_T44 l0 x9_1).f6.f3), .int .i64 ((rd_T44 l0 x9_1).f6.f4), .int .i64 ((rd_T44 l0 x9_1).f6.f5), .int .i64 ((rd_T44 l0 x9_1).f6.f6), .bool ((rd_T44 l0 x9_1).f7)]) ?_ 10 _ rfl; (with_reducible repeat (first | refine blk_drewN ?_ _ | refine blk_drew ?_ | refine blk_alloc ?_ _)); refine blk_put (cs := #[.int .i64 ((rd_T44 l0 x9_1).f0.f0), .int .i64 ((rd_T44 l0 x9_1).f0.f1), .int .i64 ((rd_T44 l0 x9_1).f1), .int .i64 ((rd_T44 l0 x9_1).f2.f0), .int .i64 ((rd_T44 l0 x9_1).f2.f1), .int .i64 ((rd_T44 l0 x9_1).f3.f0), .int .i64 ((rd_T44 l0 x9_1).f3.f1), .int .i64 t225, .int .i64 t226, .int .i64 ((rd_T44 l0 x9_1).f4.f1.f1), .int .i64 ((rd_T44 l0 x9_1).f4.f2.f0), .int .i64 ((rd_T44 l0 x9_1).f4.f2.f1), .int .i64 ((rd_T44 l0 x9_1).f4.f3), .slice A218_13 ((rd_T44 l0 x9_1).f4.f4).length c218_13, .slice A218_14 ((rd_T44 l0 x9_1).f4.f5).length c218_14, .bool ((rd_T44 l0 x9_1).f4.f6), .int .i64 ((rd_T44 l0 x9_1).f5), .int .i64 ((rd_T44 l0 x9_1).f6.f0), .int .i64 ((rd_T44 l0 x9_1).f6.f1), .int .i64 ((rd_T44 l0 x9_1).f6.f2), .int .i64 ((rd_T44 l0 x9_1).f6.f3), .int .i64 ((rd_T44 l0 x9_1).f6.f4), .int .i64 ((rd_T44 l0 x9_1).f6.f5), .int .i64 ((rd_T44 l0 x9_1).f6.f6), .bool ((rd_T44 l0 x9_1).f7)]) ?_ 9 _ rfl; (with_reducible repeat (first | refine blk_drewN ?_ _ | refine blk_drew ?_ | refine blk_alloc ?_ _)); refine blk_put (cs := #[.int .i64 ((rd_T44 l0 x9_1).f0.f0), .int .i64 ((rd_T44 l0 x9_1).f0.f1), .int .i64 ((rd_T44 l0 x9_1).f1), .int .i64 ((rd_T44 l0 x9_1).f2.f0), .int .i64 ((rd_T44 l0 x9_1).f2.f1), .int .i64 ((rd_T44 l0 x9_1).f3.f0), .int .i64 ((rd_T44 l0 x9_1).f3.f1), .int .i64 t225, .int .i64 ((rd_T44 l0 x9_1).f4.f1.f0), .int .i64 ((rd_T44 l0 x9_1).f4.f1.f1), .int .i64 ((rd_T44 l0 x9_1).f4.f2.f0), .int .i64 ((rd_T44 l0 x9_1).f4.f2.f1), .int .i64 ((rd_T44 l0 x9_1).f4.f3), .slice A218_13 ((rd_T44 l0 x9_1).f4.f4).length c218_13, .slice A218_14 ((rd_T44 l0 x9_1).f4.f5).length c218_14, .bool ((rd_T44 l0 x9_1).f4.f6), .int .i64 ((rd_T44 l0 x9_1).f5), .int .i64 ((rd_T44 l0 x9_1).f6.f0), .int .i64 ((rd_T44 l0 x9_1).f6.f1), .int .i64 ((rd_T44 l0 x9_1).f6.f2), .int .i64 ((rd_T44 l0 x9_1).f6.f3), .int .i64 ((rd_T44 l0 x9_1).f6.f4), .int .i64 ((rd_T44 l0 x9_1).f6.f5), .int .i64 ((rd_T44 l0 x9_1).f6.f6), .bool ((rd_T44 l0 x9_1).f7)]) ?_ 8 _ rfl; (with_reducible repeat (first | refine blk_drewN ?_ _ | refine blk_drew ?_ | refine blk_alloc ?_ _)); refine blk_put (cs := #[.int .i64 ((rd_T44 l0 x9_1).f0.f0), .int .i64 ((rd_T44 l0 x9_1).f0.f1), .int .i64 ((rd_T44 l0 x9_1).f1), .int .i64 ((rd_T44 l0 x9_1).f2.f0), .int .i64 ((rd_T44 l0 x9_1).f2.f1), .int .i64 ((rd_T44 l0 x9_1).f3.f0), .int .i64 ((rd_T44 l0 x9_1).f3.f1), .int .i64 ((rd_T44 l0 x9_1).f4.f0), .int .i64 ((rd_T44 l0 x9_1).f4.f1.f0), .int .i64 ((rd_T44 l0 x9_1).f4.f1.f1), .int .i64 ((rd_T44 l0 x9_1).f4.f2.f0), .int .i64 ((rd_T44 l0 x9_1).f4.f2.f1), .int .i64 ((rd_T44 l0 x9_1).f4.f3), .slice A218_13 ((rd_T44 l0 x9_1).f4.f4).length c218_13, .slice A218_14 ((rd_T44 l0 x9_1).f4.f5).length c218_14, .bool ((rd_T44 l0 x9_1).f4.f6), .int .i64 ((rd_T44 l0 x9_1).f5), .int .i64 ((rd_T44 l0 x9_1).f6.f0), .int .i64 ((rd_T44 l0 x9_1).f6.f1), .int .i64 ((rd_T44 l0 x9_1).f6.f2), .int .i64 ((rd_T44 l0 x9_1).f6.f3), .int .i64 ((rd_T44 l0 x9_1).f6.f4), .int .i64 ((rd_T44 l0 x9_1).f6.f5), .int .i64 ((rd_T44 l0 x9_1).f6.f6), .bool ((rd_T44 l0 x9_1).f7)]) ?_ 7 _ rfl; (with_reducible repeat (first | refine blk_drewN ?_ _ | refine blk_drew ?_ | refine blk_alloc ?_ _)); exact BK219.out))⟩; have n4_ : Aside0 (Below w.heap.size w w25) := ⟨(by rw [hw]; exact (by repeat (first | (with_reducible first | exact HB.out | apply below_alloc | apply pw_below_drewN | apply below_drew1 | refine below_set ?_ GE219.out) | exact HB.out)))⟩; clear hw; clear HO_3; clear HO233; clear HO236; clear BK219; clear HB; have HO_3 := n0_; have HO233 := n1_; have HO236 := n2_; have BK219 := n3_; have HB := n4_; clear n0_ n1_ n2_ n3_ n4_) | ((with_reducible refine gate_dst (N := 27) rfl ?_); (try (refine gate_guard (by rfl) ?_; dsimp only)); refine blk_load_event ?lg (N := 27) ?ld (t := 44) (x := ?lxxz26) ?lo (g := gb219) ?lx (cs := _) BK219.out ?lD ?lt ?_; (case lg => rfl); (case ld => rfl); (case lo => rfl); (case lx => first | rfl | (go_simp; done) | (go_simp; rfl)); (case lD => exact ⟨_, Try.underlying44, rfl⟩); (case lt => kernel_rfl)) | ((with_reducible refine gate_builtin (b := .append) (xs := #[.tmp 26, .tmp 28]) rfl ?_); at_builtin; refine Kd.S_append k44 (w0 := w) w.heap.size rfl (.tmp 26) (.tmp 28) 22 44 (.agg #[(.int .i64 0), (.int .i64 0), (.int .i64 0), (.int .i64 0), (.int .i64 0), (.int .i64 0), (.int .i64 0), (.int .i64 0), (.int .i64 0), (.int .i64 0), (.int .i64 0), (.int .i64 0), (.int .i64 0), (.slice none 0 0), (.slice none 0 0), (.bool false), (.int .i64 0), (.int .i64 0), (.int .i64 0), (.int .i64 0), (.int .i64 0), (.int .i64 0), (.int .i64 0), (.int .i64 0), (.bool false)]) 232 rfl Try.underlying22 info44 rfl (by decide) (by omega) u3 x3_1 (⟨(⟨(rd_T44 l0 x9_1).f0.f0, (rd_T44 l0 x9_1).f0.f1⟩ : S24), (rd_T44 l0 x9_1).f1, (⟨(rd_T44 l0 x9_1).f2.f0, (rd_T44 l0 x9_1).f2.f1⟩ : S40), (⟨(rd_T44 l0 x9_1).f3.f0, (rd_T44 l0 x9_1).f3.f1⟩ : S40), (⟨t225, (⟨t226, t227⟩ : S26), (⟨t228, t229⟩ : S28), t230, t231, t234, t237⟩ : S32), (rd_T44 l0 x9_1).f5, (⟨(rd_T44 l0 x9_1).f6.f0, (rd_T44 l0 x9_1).f6.f1, (rd_T44 l0 x9_1).f6.f2, (rd_T44 l0 x9_1).f6.f3, (rd_T44 l0 x9_1).f6.f4, (rd_T44 l0 x9_1).f6.f5, (rd_T44 l0 x9_1).f6.f6⟩ : S42), (rd_T44 l0 x9_1).f7⟩ : S44) [.int .i64 ((rd_T44 l0 x9_1).f0.f0), .int .i64 ((rd_T44 l0 x9_1).f0.f1), .int .i64 ((rd_T44 l0 x9_1).f1), .int .i64 ((rd_T44 l0 x9_1).f2.f0), .int .i64 ((rd_T44 l0 x9_1).f2.f1), .int .i64 ((rd_T44 l0 x9_1).f3.f0), .int .i64 ((rd_T44 l0 x9_1).f3.f1), .int .i64 t225, .int .i64 t226, .int .i64 t227, .int .i64 t228, .int .i64 t229, .int .i64 t230, .slice Ao23 t231.length co23, .slice Ao24 t234.length co24, .bool t237, .int .i64 ((rd_T44 l0 x9_1).f5), .int .i64 ((rd_T44 l0 x9_1).f6.f0), .int .i64 ((rd_T44 l0 x9_1).f6.f1), .int .i64 ((rd_T44 l0 x9_1).f6.f2), .int .i64 ((rd_T44 l0 x9_1).f6.f3), .int .i64 ((rd_T44 l0 x9_1).f6.f4), .int .i64 ((rd_T44 l0 x9_1).f6.f5), .int .i64 ((rd_T44 l0 x9_1).f6.f6), .bool ((rd_T44 l0 x9_1).f7)] (fun k_ => k_ ≠ gb219) (fun k_ => some k_ = (.slice Ao23 t231.length co23 : Value).ownBlock ∨ some k_ = (.slice Ao24 t234.length co24 : Value).ownBlock) rfl rfl ?aP (fun k_ hk_ => hk_.elim (fun h_ => ((Kd.R_mono (ok' := fun k_ => ((fun k_ => k_ ≠ gb219)) k_ ∧ some k_ ≠ (u3 : Value).ownBlock) (Kd.R_types (Kd.R_apart' (HO233.out) (Kd.S_typed HO_3.out) (by decide)) BK219.out (by decide)) (fun k_ hk => ⟨hk.2, hk.1.2⟩))).1 k_ h_.symm) (fun h_ => ((Kd.R_mono (ok' := fun k_ => ((fun k_ => k_ ≠ gb219)) k_ ∧ some k_ ≠ (u3 : Value).ownBlock) (Kd.R_types (Kd.R_apart' (HO236.out) (Kd.S_typed HO_3.out) (by decide)) BK219.out (by decide)) (fun k_ hk => ⟨hk.2, hk.1.2⟩))).1 k_ h_.symm)) ?aF ?aO ?aB ?aS ?aL ?_; (case aP => exact k44_mkM _ _ _ (⟨(⟨(rd_T44 l0 x9_1).f0.f0, (rd_T44 l0 x9_1).f0.f1⟩ : S24), (rd_T44 l0 x9_1).f1, (⟨(rd_T44 l0 x9_1).f2.f0, (rd_T44 l0 x9_1).f2.f1⟩ : S40), (⟨(rd_T44 l0 x9_1).f3.f0, (rd_T44 l0 x9_1).f3.f1⟩ : S40), (⟨t225, (⟨t226, t227⟩ : S26), (⟨t228, t229⟩ : S28), t230, t231, t234, t237⟩ : S32), (rd_T44 l0 x9_1).f5, (⟨(rd_T44 l0 x9_1).f6.f0, (rd_T44 l0 x9_1).f6.f1, (rd_T44 l0 x9_1).f6.f2, (rd_T44 l0 x9_1).f6.f3, (rd_T44 l0 x9_1).f6.f4, (rd_T44 l0 x9_1).f6.f5, (rd_T44 l0 x9_1).f6.f6⟩ : S42), (rd_T44 l0 x9_1).f7⟩ : S44) (Kd.R_mono (Kd.R_tight rfl (Kd.R_mono (ok' := fun k_ => ((fun k_ => k_ ≠ gb219)) k_ ∧ some k_ ≠ (u3 : Value).ownBlock) (Kd.R_types (Kd.R_apart' (HO233.out) (Kd.S_typed HO_3.out) (by decide)) BK219.out (by decide)) (fun k_ hk => ⟨hk.2, hk.1.2⟩))) (fun _ h_ => Or.inl h_)) (Kd.R_mono (Kd.R_tight rfl (Kd.R_mono (ok' := fun k_ => ((fun k_ => k_ ≠ gb219)) k_ ∧ some k_ ≠ (u3 : Value).ownBlock) (Kd.R_types (Kd.R_apart' (HO236.out) (Kd.S_typed HO_3.out) (by decide)) BK219.out (by decide)) (fun k_ hk => ⟨hk.2, hk.1.2⟩))) (fun _ h_ => Or.inr (h_)))); (case aB => exact (by repeat (first | (with_reducible first | exact HB.out | apply below_alloc | apply pw_below_drewN | apply below_drew1 | refine below_set ?_ GE219.out) | exact HB.out))); (case aF => exact (fun k_ hk => Kd.freshB (g := gb219) (o := .cells #[.int .i64 ((rd_T44 l0 x9_1).f0.f0), .int .i64 ((rd_T44 l0 x9_1).f0.f1), .int .i64 ((rd_T44 l0 x9_1).f1), .int .i64 ((rd_T44 l0 x9_1).f2.f0), .int .i64 ((rd_T44 l0 x9_1).f2.f1), .int .i64 ((rd_T44 l0 x9_1).f3.f0), .int .i64 ((rd_T44 l0 x9_1).f3.f1), .int .i64 t225, .int .i64 t226, .int .i64 t227, .int .i64 t228, .int .i64 t229, .int .i64 t230, .slice Ao23 t231.length co23, .slice Ao24 t234.length co24, .bool t237, .int .i64 ((rd_T44 l0 x9_1).f5), .int .i64 ((rd_T44 l0 x9_1).f6.f0), .int .i64 ((rd_T44 l0 x9_1).f6.f1), .int .i64 ((rd_T44 l0 x9_1).f6.f2), .int .i64 ((rd_T44 l0 x9_1).f6.f3), .int .i64 ((rd_T44 l0 x9_1).f6.f4), .int .i64 ((rd_T44 l0 x9_1).f6.f5), .int .i64 ((rd_T44 l0 x9_1).f6.f6), .bool ((rd_T44 l0 x9_1).f7)] 44 (0, 0)) (kb_ BK219.out) k_ hk)); (case aO => exact (by (with_reducible repeat (first | apply Kd.S_alloc | apply Kd.S_drewN | apply Kd.S_drew)); exact Kd.S_mono HO_3.out (fun k_ hk => ⟨hk.2.2, fun e_ => e_.elim (fun h_ => hk.1 h_) (fun h_ => hk.2.1 h_)⟩))); (case aS => exact (below_size (by repeat (first | (with_reducible first | exact HB.out | apply below_alloc | apply pw_below_drewN | apply below_drew1 | refine below_set ?_ GE219.out) | exact HB.out)))); (case aL => have := LMc15.out; omega); intro v239 w27 ho hb hg hat; rw [← Ny238.out] at ho; have n0_ := Aside0.mk (blk_grown (kb_ BK219.out) hg (Kd.S_away HO_3.out (fun _ hk => hk.2.2))); have n1_ := Aside0.mk (hb); have n2_ := Aside0.mk (ho); clear BK219; clear HB; clear HO_3; clear HO233; clear HO236; have BK219 := n0_; have HB := n1_; have HO240 := n2_; clear n0_ n1_ n2_; clear ho hb hg hat))
                 go_roundg k1
                 case measure => have := HK1.out; omega
                 case rel => exact ⟨(y238), (ji5), (by first | rfl | (simp; done) | (simp only [← hji5] <;> (first | rfl | (simp; done))) | (simp [*]; done) | (subst_vars; simp only [mx_eq, mn_eq]; done)), H', ⟨by have := HK1.out; omega⟩, ⟨by (with_reducible repeat (first | apply Kd.S_alloc | apply Kd.S_drewN | apply Kd.S_drew)); exact Kd.S_mono HO240.out (fun _ hk => trivial)⟩, ⟨by repeat (first | (with_reducible first | exact HB.out | apply below_alloc | apply pw_below_drewN | apply below_drew1 | refine below_set ?_ GE219.out) | exact HB.out)⟩⟩
               · rw [if_neg c15] at H
                 exact absurd H (by simp)
           · rw [if_neg c7] at H
             exact absurd H (by simp)
         · rw [if_neg c6] at H
           exact absurd H (by simp)
       · rw [if_neg c4] at H
         exact absurd H (by simp)
     · rw [if_neg c3] at H
       exact absurd H (by simp)
   · rw [if_neg c2] at H
     have c2b0 : decide (x9_1 < (l0.length : Int)) = false := decide_eq_false c2
     clear c2
     obtain rfl := Option.some.inj H
     go_wp2
     go_ret
     exact ⟨_, by first | rfl | (simp [errW_none, errW_some] <;> rfl) | (simp [*, errW_none, errW_some] <;> rfl), by (with_reducible repeat (first | apply Kd.S_alloc | apply Kd.S_drewN | apply Kd.S_drew)); exact HO_3.out, by repeat (first | (with_reducible first | exact HB.out | apply below_alloc | apply pw_below_drewN | apply below_drew1) | exact HB.out)⟩
end Go.Proofs.Ytklbmdakoeoplaa.X
end
