/- What the claim ODS leans on: texts joined by bundle.py, a program of ours; the words cut down to what is used. -/
import Derived.Test.YtklbmdakoeoplaaBODS1
import Derived.Test.YtklbmdakoeoplaaProg
import Derived.Below
import Derived.Deep.Draws
import Derived.Deep.AppendLies
import Derived.Maps.AppendAt
import Derived.OwnWalk
import Derived.Laws.BytesArg
import Derived.Laws.MakeOwn
import Derived.Laws.OwnMore
import Derived.Deep.OwnRows
import Derived.Tactics
import Derived.Lib.ConvBytes
import Derived.Laws.Slices
import Derived.WalkKit
import Derived.KernelRfl
import Derived.RowKit3
import Derived.Deep.LoopGhost
import Derived.Deep.QuietTactic
import Derived.BigQuiet
import Derived.WideLaws
import Derived.Deep.DeepCutAuto
import Derived.Deep.CutBlock
import Derived.Deep.RegionHeld3
import Derived.Laws.Rows
import Derived.Lib.AppendStr
import Derived.ArgAppend
import Derived.Laws.IdiomCopy
import Derived.OrdersHeld
import Derived.Laws.BitsLemmas
import Derived.RowKit
import Derived.WalkLawsBesides
import Derived.WalkSpells
import Derived.Handy
import Derived.Lib.Hide
import Derived.StillTailTactics
section
namespace Go.Proofs.Ytklbmdakoeoplaa.X
open Go.RowKit Go.Proofs.YtklbmdakoeoplaaW.PrintWords Go.Proofs.YtklbmdakoeoplaaW.PrintLast Go.Proofs.YtklbmdakoeoplaaW.PrintMore
attribute [local go_sem] max2_int min2_int max_two min_two max_three min_three max_four min_four   -- for this text's walks alone
set_option linter.unusedVariables false
set_option linter.unusedSimpArgs false



def errW : Option Int → Value
  | none => .nilIface
  | some c => .iface 0 (.int .i64 c)
theorem errW_none : errW none = .nilIface := rfl
theorem errW_some (c : Int) : errW (some c) = .iface 0 (.int .i64 c) := rfl

theorem info9 : (Try.prog.info? 9).map (fun i => (i.zero, i.size, i.bytes)) = some (some (.string ⟨#[]⟩), 1, 16) := by kernel_rfl
theorem info44 : (Try.prog.info? 44).map (fun i => (i.zero, i.size, i.bytes)) = some (some (.agg #[(.int .i64 0), (.int .i64 0), (.int .i64 0), (.int .i64 0), (.int .i64 0), (.int .i64 0), (.int .i64 0), (.int .i64 0), (.int .i64 0), (.int .i64 0), (.int .i64 0), (.int .i64 0), (.int .i64 0), (.slice none 0 0), (.slice none 0 0), (.bool false), (.int .i64 0), (.int .i64 0), (.int .i64 0), (.int .i64 0), (.int .i64 0), (.int .i64 0), (.int .i64 0), (.int .i64 0), (.bool false)]), 25, 232) := by kernel_rfl
theorem info46 : (Try.prog.info? 46).map (fun i => (i.zero, i.size, i.bytes)) = some (some (.agg #[(.string ⟨#[]⟩), (.string ⟨#[]⟩)]), 2, 32) := by kernel_rfl
theorem info61 : (Try.prog.info? 61).map (fun i => (i.zero, i.size, i.bytes)) = some (some (.agg #[(.string ⟨#[]⟩), (.int .i64 0), (.int .i64 0)]), 3, 32) := by kernel_rfl
-- the values' own types
/-! #### struct type 26 -/
structure S26 where
  f0 : Int
  f1 : Int
def z26 : S26 := ⟨(0 : Int), (0 : Int)⟩
def k26 : Kd S26 := Kd.iso (Kd.pair (Kd.int .i64) (Kd.int .i64)) (fun x : S26 => (x.f0, x.f1))
theorem k26_heap : Kd.Heap k26 := Kd.heap_iso _ (Kd.heap_pair (Kd.heap_int .i64) (Kd.heap_int .i64))
theorem k26_open {w : World} {x : S26} {cs : List Value} (h : k26.K w x cs) : cs = [.int .i64 x.f0, .int .i64 x.f1] := by
  obtain ⟨_, _, rfl, rfl, rfl⟩ := h
  exact rfl
theorem k26_openM {w : World} {base : Nat} {ok : Nat → Prop} {x : S26} {cs : List Value} (h : k26.M w base ok x cs) : cs = [.int .i64 x.f0, .int .i64 x.f1] := by
  obtain ⟨_, _, rfl, rfl, rfl⟩ := h
  exact rfl
theorem k26_mk (w : World) (x : S26)  : k26.K w x [.int .i64 x.f0, .int .i64 x.f1] := ⟨[.int .i64 x.f0], [.int .i64 x.f1], rfl, rfl, rfl⟩
theorem k26_mkM (w : World) (base : Nat) (ok : Nat → Prop) (x : S26)  : k26.M w base ok x [.int .i64 x.f0, .int .i64 x.f1] := ⟨[.int .i64 x.f0], [.int .i64 x.f1], rfl, rfl, rfl⟩
/-! #### struct type 28 -/
structure S28 where
  f0 : Int
  f1 : Int
def z28 : S28 := ⟨(0 : Int), (0 : Int)⟩
def k28 : Kd S28 := Kd.iso (Kd.pair (Kd.int .i64) (Kd.int .i64)) (fun x : S28 => (x.f0, x.f1))
theorem k28_heap : Kd.Heap k28 := Kd.heap_iso _ (Kd.heap_pair (Kd.heap_int .i64) (Kd.heap_int .i64))
theorem k28_open {w : World} {x : S28} {cs : List Value} (h : k28.K w x cs) : cs = [.int .i64 x.f0, .int .i64 x.f1] := by
  obtain ⟨_, _, rfl, rfl, rfl⟩ := h
  exact rfl
theorem k28_openM {w : World} {base : Nat} {ok : Nat → Prop} {x : S28} {cs : List Value} (h : k28.M w base ok x cs) : cs = [.int .i64 x.f0, .int .i64 x.f1] := by
  obtain ⟨_, _, rfl, rfl, rfl⟩ := h
  exact rfl
theorem k28_mk (w : World) (x : S28)  : k28.K w x [.int .i64 x.f0, .int .i64 x.f1] := ⟨[.int .i64 x.f0], [.int .i64 x.f1], rfl, rfl, rfl⟩
theorem k28_mkM (w : World) (base : Nat) (ok : Nat → Prop) (x : S28)  : k28.M w base ok x [.int .i64 x.f0, .int .i64 x.f1] := ⟨[.int .i64 x.f0], [.int .i64 x.f1], rfl, rfl, rfl⟩
/-! #### struct type 61 -/
structure S61 where
  f0 : ByteArray
  f1 : S28
def z61 : S61 := ⟨(⟨#[]⟩ : ByteArray), z28⟩
def k61 : Kd S61 := Kd.iso (Kd.pair Kd.string k28) (fun x : S61 => (x.f0, x.f1))
theorem k61_heap : Kd.Heap k61 := Kd.heap_iso _ (Kd.heap_pair Kd.heap_string k28_heap)
theorem k61_open {w : World} {x : S61} {cs : List Value} (h : k61.K w x cs) : cs = [.string x.f0, .int .i64 x.f1.f0, .int .i64 x.f1.f1] := by
  obtain ⟨_, _, rfl, rfl, s1⟩ := h
  obtain rfl := k28_open s1
  exact rfl
def rd_T61 (xs : List S61) (i : Int) : S61 := xs.getD i.toNat z61
theorem at_T61 {w : World} {A : Option Addr} {n : Nat} {xs : List S61} (h : Kd.C k61 w A n xs) (i : Int) (h0 : 0 ≤ i) (h1 : i < n) : ∃ ad , A = some ad ∧ w.cell? (ad.add (i.toNat * 3)) = some (.string (rd_T61 xs i).f0) ∧ w.cell? ⟨(ad.add (i.toNat * 3)).block, (ad.add (i.toNat * 3)).off + 1, none⟩ = some (.int .i64 (rd_T61 xs i).f1.f0) ∧ w.cell? ⟨(ad.add (i.toNat * 3)).block, (ad.add (i.toNat * 3)).off + 2, none⟩ = some (.int .i64 (rd_T61 xs i).f1.f1) := by
  obtain ⟨ad, c, e, _, hK, hc0⟩ := Kd.C_get h z61 i h0 h1
  have hc : ∀ j u, c[j]? = some u → w.cell? (ad.add (i.toNat * 3 + j)) = some u := hc0
  obtain rfl := k61_open hK
  exact ⟨ad, e, hc 0 _ rfl, by rw [← add_field _ _ 1 (by omega)]; exact hc 1 _ rfl, by rw [← add_field _ _ 2 (by omega)]; exact hc 2 _ rfl⟩

/-! #### struct type 46 -/
structure S46 where
  f0 : ByteArray
  f1 : ByteArray
def z46 : S46 := ⟨(⟨#[]⟩ : ByteArray), (⟨#[]⟩ : ByteArray)⟩
def k46 : Kd S46 := Kd.iso (Kd.pair Kd.string Kd.string) (fun x : S46 => (x.f0, x.f1))
theorem k46_heap : Kd.Heap k46 := Kd.heap_iso _ (Kd.heap_pair Kd.heap_string Kd.heap_string)
theorem k46_open {w : World} {x : S46} {cs : List Value} (h : k46.K w x cs) : cs = [.string x.f0, .string x.f1] := by
  obtain ⟨_, _, rfl, rfl, rfl⟩ := h
  exact rfl
theorem k46_mkM (w : World) (base : Nat) (ok : Nat → Prop) (x : S46)  : k46.M w base ok x [.string x.f0, .string x.f1] := ⟨[.string x.f0], [.string x.f1], rfl, rfl, rfl⟩
def rd_T46 (xs : List S46) (i : Int) : S46 := xs.getD i.toNat z46
theorem at_T46 {w : World} {A : Option Addr} {n : Nat} {xs : List S46} (h : Kd.C k46 w A n xs) (i : Int) (h0 : 0 ≤ i) (h1 : i < n) : ∃ ad , A = some ad ∧ w.cell? (ad.add (i.toNat * 2)) = some (.string (rd_T46 xs i).f0) ∧ w.cell? ⟨(ad.add (i.toNat * 2)).block, (ad.add (i.toNat * 2)).off + 1, none⟩ = some (.string (rd_T46 xs i).f1) := by
  obtain ⟨ad, c, e, _, hK, hc0⟩ := Kd.C_get h z46 i h0 h1
  have hc : ∀ j u, c[j]? = some u → w.cell? (ad.add (i.toNat * 2 + j)) = some u := hc0
  obtain rfl := k46_open hK
  exact ⟨ad, e, hc 0 _ rfl, by rw [← add_field _ _ 1 (by omega)]; exact hc 1 _ rfl⟩

/-! #### struct type 32 -/
structure S32 where
  f0 : Int
  f1 : S26
  f2 : S28
  f3 : Int
  f4 : (List S61)
  f5 : (List S46)
  f6 : Bool
def z32 : S32 := ⟨(0 : Int), z26, z28, (0 : Int), ([] : List S61), ([] : List S46), false⟩
def k32 : Kd S32 := Kd.iso (Kd.pair (Kd.int .i64) (Kd.pair k26 (Kd.pair k28 (Kd.pair (Kd.int .i64) (Kd.pair (Kd.slice 61 k61) (Kd.pair (Kd.slice 46 k46) Kd.bool)))))) (fun x : S32 => (x.f0, x.f1, x.f2, x.f3, x.f4, x.f5, x.f6))
theorem k32_heap : Kd.Heap k32 := Kd.heap_iso _ (Kd.heap_pair (Kd.heap_int .i64) (Kd.heap_pair k26_heap (Kd.heap_pair k28_heap (Kd.heap_pair (Kd.heap_int .i64) (Kd.heap_pair (Kd.heap_slice 61 k61_heap) (Kd.heap_pair (Kd.heap_slice 46 k46_heap) Kd.heap_bool))))))
theorem k32_open {w : World} {x : S32} {cs : List Value} (h : k32.K w x cs) : ∃ A6 c6 A7 c7, cs = [.int .i64 x.f0, .int .i64 x.f1.f0, .int .i64 x.f1.f1, .int .i64 x.f2.f0, .int .i64 x.f2.f1, .int .i64 x.f3, .slice A6 x.f4.length c6, .slice A7 x.f5.length c7, .bool x.f6] ∧ x.f4.length ≤ c6 ∧ k61.C w A6 x.f4.length x.f4 ∧ x.f5.length ≤ c7 ∧ k46.C w A7 x.f5.length x.f5 := by
  obtain ⟨_, _, rfl, rfl, ⟨_, _, rfl, s1, ⟨_, _, rfl, s3, ⟨_, _, rfl, rfl, ⟨_, _, rfl, ⟨A6, c6, rfl, l6, g6⟩, ⟨_, _, rfl, ⟨A7, c7, rfl, l7, g7⟩, rfl⟩⟩⟩⟩⟩⟩ := h
  obtain rfl := k26_open s1
  obtain rfl := k28_open s3
  exact ⟨A6, c6, A7, c7, rfl, l6, g6, l7, g7⟩
theorem k32_openM {w : World} {base : Nat} {ok : Nat → Prop} {x : S32} {cs : List Value} (h : k32.M w base ok x cs) : ∃ v6 v7, cs = [.int .i64 x.f0, .int .i64 x.f1.f0, .int .i64 x.f1.f1, .int .i64 x.f2.f0, .int .i64 x.f2.f1, .int .i64 x.f3, v6, v7, .bool x.f6] ∧ k61.R 61 w base ok v6 x.f4 ∧ k46.R 46 w base ok v7 x.f5 := by
  obtain ⟨_, _, rfl, rfl, ⟨_, _, rfl, s1, ⟨_, _, rfl, s3, ⟨_, _, rfl, rfl, ⟨_, _, rfl, ⟨v6, rfl, g6⟩, ⟨_, _, rfl, ⟨v7, rfl, g7⟩, rfl⟩⟩⟩⟩⟩⟩ := h
  obtain rfl := k26_openM s1
  obtain rfl := k28_openM s3
  exact ⟨v6, v7, rfl, g6, g7⟩
theorem k32_mk (w : World) (x : S32) {A6 : Option Addr} {c6 : Nat} (l6 : x.f4.length ≤ c6) (g6 : k61.C w A6 x.f4.length x.f4) {A7 : Option Addr} {c7 : Nat} (l7 : x.f5.length ≤ c7) (g7 : k46.C w A7 x.f5.length x.f5) : k32.K w x [.int .i64 x.f0, .int .i64 x.f1.f0, .int .i64 x.f1.f1, .int .i64 x.f2.f0, .int .i64 x.f2.f1, .int .i64 x.f3, .slice A6 x.f4.length c6, .slice A7 x.f5.length c7, .bool x.f6] := ⟨[.int .i64 x.f0], [.int .i64 x.f1.f0, .int .i64 x.f1.f1, .int .i64 x.f2.f0, .int .i64 x.f2.f1, .int .i64 x.f3, .slice A6 x.f4.length c6, .slice A7 x.f5.length c7, .bool x.f6], rfl, rfl, ⟨[.int .i64 x.f1.f0, .int .i64 x.f1.f1], [.int .i64 x.f2.f0, .int .i64 x.f2.f1, .int .i64 x.f3, .slice A6 x.f4.length c6, .slice A7 x.f5.length c7, .bool x.f6], rfl, (k26_mk w x.f1 ), ⟨[.int .i64 x.f2.f0, .int .i64 x.f2.f1], [.int .i64 x.f3, .slice A6 x.f4.length c6, .slice A7 x.f5.length c7, .bool x.f6], rfl, (k28_mk w x.f2 ), ⟨[.int .i64 x.f3], [.slice A6 x.f4.length c6, .slice A7 x.f5.length c7, .bool x.f6], rfl, rfl, ⟨[.slice A6 x.f4.length c6], [.slice A7 x.f5.length c7, .bool x.f6], rfl, ⟨A6, c6, rfl, l6, g6⟩, ⟨[.slice A7 x.f5.length c7], [.bool x.f6], rfl, ⟨A7, c7, rfl, l7, g7⟩, rfl⟩⟩⟩⟩⟩⟩
theorem k32_mkM (w : World) (base : Nat) (ok : Nat → Prop) (x : S32) {v6 : Value} (g6 : k61.R 61 w base ok v6 x.f4) {v7 : Value} (g7 : k46.R 46 w base ok v7 x.f5) : k32.M w base ok x [.int .i64 x.f0, .int .i64 x.f1.f0, .int .i64 x.f1.f1, .int .i64 x.f2.f0, .int .i64 x.f2.f1, .int .i64 x.f3, v6, v7, .bool x.f6] := ⟨[.int .i64 x.f0], [.int .i64 x.f1.f0, .int .i64 x.f1.f1, .int .i64 x.f2.f0, .int .i64 x.f2.f1, .int .i64 x.f3, v6, v7, .bool x.f6], rfl, rfl, ⟨[.int .i64 x.f1.f0, .int .i64 x.f1.f1], [.int .i64 x.f2.f0, .int .i64 x.f2.f1, .int .i64 x.f3, v6, v7, .bool x.f6], rfl, (k26_mkM w base ok x.f1 ), ⟨[.int .i64 x.f2.f0, .int .i64 x.f2.f1], [.int .i64 x.f3, v6, v7, .bool x.f6], rfl, (k28_mkM w base ok x.f2 ), ⟨[.int .i64 x.f3], [v6, v7, .bool x.f6], rfl, rfl, ⟨[v6], [v7, .bool x.f6], rfl, ⟨v6, rfl, g6⟩, ⟨[v7], [.bool x.f6], rfl, ⟨v7, rfl, g7⟩, rfl⟩⟩⟩⟩⟩⟩
theorem k32_mkF (W : World) (ok : Nat → Prop) (x : S32) {A6 : Option Addr} {c6 : Nat} (l6 : x.f4.length ≤ c6) (g6 : Kd.F k61 W ok A6 x.f4.length x.f4) {A7 : Option Addr} {c7 : Nat} (l7 : x.f5.length ≤ c7) (g7 : Kd.F k46 W ok A7 x.f5.length x.f5) : Kd.FK k32 W ok x [.int .i64 x.f0, .int .i64 x.f1.f0, .int .i64 x.f1.f1, .int .i64 x.f2.f0, .int .i64 x.f2.f1, .int .i64 x.f3, .slice A6 x.f4.length c6, .slice A7 x.f5.length c7, .bool x.f6] := fun W2 hW => k32_mk W2 x l6 (g6 W2 hW) l7 (g7 W2 hW)
def rd_T32 (xs : List S32) (i : Int) : S32 := xs.getD i.toNat z32
theorem at_T32 {w : World} {A : Option Addr} {n : Nat} {xs : List S32} (h : Kd.C k32 w A n xs) (i : Int) (h0 : 0 ≤ i) (h1 : i < n) : ∃ ad A6 c6 A7 c7, A = some ad ∧ w.cell? (ad.add (i.toNat * 9)) = some (.int .i64 (rd_T32 xs i).f0) ∧ w.cell? ⟨(ad.add (i.toNat * 9)).block, (ad.add (i.toNat * 9)).off + 1, none⟩ = some (.int .i64 (rd_T32 xs i).f1.f0) ∧ w.cell? ⟨(ad.add (i.toNat * 9)).block, (ad.add (i.toNat * 9)).off + 2, none⟩ = some (.int .i64 (rd_T32 xs i).f1.f1) ∧ w.cell? ⟨(ad.add (i.toNat * 9)).block, (ad.add (i.toNat * 9)).off + 3, none⟩ = some (.int .i64 (rd_T32 xs i).f2.f0) ∧ w.cell? ⟨(ad.add (i.toNat * 9)).block, (ad.add (i.toNat * 9)).off + 4, none⟩ = some (.int .i64 (rd_T32 xs i).f2.f1) ∧ w.cell? ⟨(ad.add (i.toNat * 9)).block, (ad.add (i.toNat * 9)).off + 5, none⟩ = some (.int .i64 (rd_T32 xs i).f3) ∧ w.cell? ⟨(ad.add (i.toNat * 9)).block, (ad.add (i.toNat * 9)).off + 6, none⟩ = some (.slice A6 (rd_T32 xs i).f4.length c6) ∧ w.cell? ⟨(ad.add (i.toNat * 9)).block, (ad.add (i.toNat * 9)).off + 7, none⟩ = some (.slice A7 (rd_T32 xs i).f5.length c7) ∧ w.cell? ⟨(ad.add (i.toNat * 9)).block, (ad.add (i.toNat * 9)).off + 8, none⟩ = some (.bool (rd_T32 xs i).f6) ∧ (rd_T32 xs i).f4.length ≤ c6 ∧ k61.C w A6 (rd_T32 xs i).f4.length (rd_T32 xs i).f4 ∧ (rd_T32 xs i).f5.length ≤ c7 ∧ k46.C w A7 (rd_T32 xs i).f5.length (rd_T32 xs i).f5 := by
  obtain ⟨ad, c, e, _, hK, hc0⟩ := Kd.C_get h z32 i h0 h1
  have hc : ∀ j u, c[j]? = some u → w.cell? (ad.add (i.toNat * 9 + j)) = some u := hc0
  obtain ⟨A6, c6, A7, c7, rfl, l6, g6, l7, g7⟩ := k32_open hK
  exact ⟨ad, A6, c6, A7, c7, e, hc 0 _ rfl, by rw [← add_field _ _ 1 (by omega)]; exact hc 1 _ rfl, by rw [← add_field _ _ 2 (by omega)]; exact hc 2 _ rfl, by rw [← add_field _ _ 3 (by omega)]; exact hc 3 _ rfl, by rw [← add_field _ _ 4 (by omega)]; exact hc 4 _ rfl, by rw [← add_field _ _ 5 (by omega)]; exact hc 5 _ rfl, by rw [← add_field _ _ 6 (by omega)]; exact hc 6 _ rfl, by rw [← add_field _ _ 7 (by omega)]; exact hc 7 _ rfl, by rw [← add_field _ _ 8 (by omega)]; exact hc 8 _ rfl, l6, g6, l7, g7⟩

/-! #### struct type 24 -/
structure S24 where
  f0 : Int
  f1 : Int
def z24 : S24 := ⟨(0 : Int), (0 : Int)⟩
def k24 : Kd S24 := Kd.iso (Kd.pair (Kd.int .i64) (Kd.int .i64)) (fun x : S24 => (x.f0, x.f1))
theorem k24_heap : Kd.Heap k24 := Kd.heap_iso _ (Kd.heap_pair (Kd.heap_int .i64) (Kd.heap_int .i64))
theorem k24_open {w : World} {x : S24} {cs : List Value} (h : k24.K w x cs) : cs = [.int .i64 x.f0, .int .i64 x.f1] := by
  obtain ⟨_, _, rfl, rfl, rfl⟩ := h
  exact rfl
theorem k24_openM {w : World} {base : Nat} {ok : Nat → Prop} {x : S24} {cs : List Value} (h : k24.M w base ok x cs) : cs = [.int .i64 x.f0, .int .i64 x.f1] := by
  obtain ⟨_, _, rfl, rfl, rfl⟩ := h
  exact rfl
theorem k24_mk (w : World) (x : S24)  : k24.K w x [.int .i64 x.f0, .int .i64 x.f1] := ⟨[.int .i64 x.f0], [.int .i64 x.f1], rfl, rfl, rfl⟩
theorem k24_mkM (w : World) (base : Nat) (ok : Nat → Prop) (x : S24)  : k24.M w base ok x [.int .i64 x.f0, .int .i64 x.f1] := ⟨[.int .i64 x.f0], [.int .i64 x.f1], rfl, rfl, rfl⟩
/-! #### struct type 40 -/
structure S40 where
  f0 : Int
  f1 : Int
def z40 : S40 := ⟨(0 : Int), (0 : Int)⟩
def k40 : Kd S40 := Kd.iso (Kd.pair (Kd.int .i64) (Kd.int .i64)) (fun x : S40 => (x.f0, x.f1))
theorem k40_heap : Kd.Heap k40 := Kd.heap_iso _ (Kd.heap_pair (Kd.heap_int .i64) (Kd.heap_int .i64))
theorem k40_open {w : World} {x : S40} {cs : List Value} (h : k40.K w x cs) : cs = [.int .i64 x.f0, .int .i64 x.f1] := by
  obtain ⟨_, _, rfl, rfl, rfl⟩ := h
  exact rfl
theorem k40_openM {w : World} {base : Nat} {ok : Nat → Prop} {x : S40} {cs : List Value} (h : k40.M w base ok x cs) : cs = [.int .i64 x.f0, .int .i64 x.f1] := by
  obtain ⟨_, _, rfl, rfl, rfl⟩ := h
  exact rfl
theorem k40_mk (w : World) (x : S40)  : k40.K w x [.int .i64 x.f0, .int .i64 x.f1] := ⟨[.int .i64 x.f0], [.int .i64 x.f1], rfl, rfl, rfl⟩
theorem k40_mkM (w : World) (base : Nat) (ok : Nat → Prop) (x : S40)  : k40.M w base ok x [.int .i64 x.f0, .int .i64 x.f1] := ⟨[.int .i64 x.f0], [.int .i64 x.f1], rfl, rfl, rfl⟩
/-! #### struct type 42 -/
structure S42 where
  f0 : Int
  f1 : Int
  f2 : Int
  f3 : Int
  f4 : Int
  f5 : Int
  f6 : Int
def z42 : S42 := ⟨(0 : Int), (0 : Int), (0 : Int), (0 : Int), (0 : Int), (0 : Int), (0 : Int)⟩
def k42 : Kd S42 := Kd.iso (Kd.pair (Kd.int .i64) (Kd.pair (Kd.int .i64) (Kd.pair (Kd.int .i64) (Kd.pair (Kd.int .i64) (Kd.pair (Kd.int .i64) (Kd.pair (Kd.int .i64) (Kd.int .i64))))))) (fun x : S42 => (x.f0, x.f1, x.f2, x.f3, x.f4, x.f5, x.f6))
theorem k42_heap : Kd.Heap k42 := Kd.heap_iso _ (Kd.heap_pair (Kd.heap_int .i64) (Kd.heap_pair (Kd.heap_int .i64) (Kd.heap_pair (Kd.heap_int .i64) (Kd.heap_pair (Kd.heap_int .i64) (Kd.heap_pair (Kd.heap_int .i64) (Kd.heap_pair (Kd.heap_int .i64) (Kd.heap_int .i64)))))))
theorem k42_open {w : World} {x : S42} {cs : List Value} (h : k42.K w x cs) : cs = [.int .i64 x.f0, .int .i64 x.f1, .int .i64 x.f2, .int .i64 x.f3, .int .i64 x.f4, .int .i64 x.f5, .int .i64 x.f6] := by
  obtain ⟨_, _, rfl, rfl, ⟨_, _, rfl, rfl, ⟨_, _, rfl, rfl, ⟨_, _, rfl, rfl, ⟨_, _, rfl, rfl, ⟨_, _, rfl, rfl, rfl⟩⟩⟩⟩⟩⟩ := h
  exact rfl
theorem k42_openM {w : World} {base : Nat} {ok : Nat → Prop} {x : S42} {cs : List Value} (h : k42.M w base ok x cs) : cs = [.int .i64 x.f0, .int .i64 x.f1, .int .i64 x.f2, .int .i64 x.f3, .int .i64 x.f4, .int .i64 x.f5, .int .i64 x.f6] := by
  obtain ⟨_, _, rfl, rfl, ⟨_, _, rfl, rfl, ⟨_, _, rfl, rfl, ⟨_, _, rfl, rfl, ⟨_, _, rfl, rfl, ⟨_, _, rfl, rfl, rfl⟩⟩⟩⟩⟩⟩ := h
  exact rfl
theorem k42_mk (w : World) (x : S42)  : k42.K w x [.int .i64 x.f0, .int .i64 x.f1, .int .i64 x.f2, .int .i64 x.f3, .int .i64 x.f4, .int .i64 x.f5, .int .i64 x.f6] := ⟨[.int .i64 x.f0], [.int .i64 x.f1, .int .i64 x.f2, .int .i64 x.f3, .int .i64 x.f4, .int .i64 x.f5, .int .i64 x.f6], rfl, rfl, ⟨[.int .i64 x.f1], [.int .i64 x.f2, .int .i64 x.f3, .int .i64 x.f4, .int .i64 x.f5, .int .i64 x.f6], rfl, rfl, ⟨[.int .i64 x.f2], [.int .i64 x.f3, .int .i64 x.f4, .int .i64 x.f5, .int .i64 x.f6], rfl, rfl, ⟨[.int .i64 x.f3], [.int .i64 x.f4, .int .i64 x.f5, .int .i64 x.f6], rfl, rfl, ⟨[.int .i64 x.f4], [.int .i64 x.f5, .int .i64 x.f6], rfl, rfl, ⟨[.int .i64 x.f5], [.int .i64 x.f6], rfl, rfl, rfl⟩⟩⟩⟩⟩⟩
theorem k42_mkM (w : World) (base : Nat) (ok : Nat → Prop) (x : S42)  : k42.M w base ok x [.int .i64 x.f0, .int .i64 x.f1, .int .i64 x.f2, .int .i64 x.f3, .int .i64 x.f4, .int .i64 x.f5, .int .i64 x.f6] := ⟨[.int .i64 x.f0], [.int .i64 x.f1, .int .i64 x.f2, .int .i64 x.f3, .int .i64 x.f4, .int .i64 x.f5, .int .i64 x.f6], rfl, rfl, ⟨[.int .i64 x.f1], [.int .i64 x.f2, .int .i64 x.f3, .int .i64 x.f4, .int .i64 x.f5, .int .i64 x.f6], rfl, rfl, ⟨[.int .i64 x.f2], [.int .i64 x.f3, .int .i64 x.f4, .int .i64 x.f5, .int .i64 x.f6], rfl, rfl, ⟨[.int .i64 x.f3], [.int .i64 x.f4, .int .i64 x.f5, .int .i64 x.f6], rfl, rfl, ⟨[.int .i64 x.f4], [.int .i64 x.f5, .int .i64 x.f6], rfl, rfl, ⟨[.int .i64 x.f5], [.int .i64 x.f6], rfl, rfl, rfl⟩⟩⟩⟩⟩⟩
/-! #### struct type 44 -/
structure S44 where
  f0 : S24
  f1 : Int
  f2 : S40
  f3 : S40
  f4 : S32
  f5 : Int
  f6 : S42
  f7 : Bool
def z44 : S44 := ⟨z24, (0 : Int), z40, z40, z32, (0 : Int), z42, false⟩
def k44 : Kd S44 := Kd.iso (Kd.pair k24 (Kd.pair (Kd.int .i64) (Kd.pair k40 (Kd.pair k40 (Kd.pair k32 (Kd.pair (Kd.int .i64) (Kd.pair k42 Kd.bool))))))) (fun x : S44 => (x.f0, x.f1, x.f2, x.f3, x.f4, x.f5, x.f6, x.f7))
theorem k44_heap : Kd.Heap k44 := Kd.heap_iso _ (Kd.heap_pair k24_heap (Kd.heap_pair (Kd.heap_int .i64) (Kd.heap_pair k40_heap (Kd.heap_pair k40_heap (Kd.heap_pair k32_heap (Kd.heap_pair (Kd.heap_int .i64) (Kd.heap_pair k42_heap Kd.heap_bool)))))))
theorem k44_open {w : World} {x : S44} {cs : List Value} (h : k44.K w x cs) : ∃ A13 c13 A14 c14, cs = [.int .i64 x.f0.f0, .int .i64 x.f0.f1, .int .i64 x.f1, .int .i64 x.f2.f0, .int .i64 x.f2.f1, .int .i64 x.f3.f0, .int .i64 x.f3.f1, .int .i64 x.f4.f0, .int .i64 x.f4.f1.f0, .int .i64 x.f4.f1.f1, .int .i64 x.f4.f2.f0, .int .i64 x.f4.f2.f1, .int .i64 x.f4.f3, .slice A13 x.f4.f4.length c13, .slice A14 x.f4.f5.length c14, .bool x.f4.f6, .int .i64 x.f5, .int .i64 x.f6.f0, .int .i64 x.f6.f1, .int .i64 x.f6.f2, .int .i64 x.f6.f3, .int .i64 x.f6.f4, .int .i64 x.f6.f5, .int .i64 x.f6.f6, .bool x.f7] ∧ x.f4.f4.length ≤ c13 ∧ k61.C w A13 x.f4.f4.length x.f4.f4 ∧ x.f4.f5.length ≤ c14 ∧ k46.C w A14 x.f4.f5.length x.f4.f5 := by
  obtain ⟨_, _, rfl, s0, ⟨_, _, rfl, rfl, ⟨_, _, rfl, s3, ⟨_, _, rfl, s5, ⟨_, _, rfl, s7, ⟨_, _, rfl, rfl, ⟨_, _, rfl, s17, rfl⟩⟩⟩⟩⟩⟩⟩ := h
  obtain rfl := k24_open s0
  obtain rfl := k40_open s3
  obtain rfl := k40_open s5
  obtain ⟨A13, c13, A14, c14, rfl, l13, g13, l14, g14⟩ := k32_open s7
  obtain rfl := k42_open s17
  exact ⟨A13, c13, A14, c14, rfl, l13, g13, l14, g14⟩
theorem k44_openM {w : World} {base : Nat} {ok : Nat → Prop} {x : S44} {cs : List Value} (h : k44.M w base ok x cs) : ∃ v13 v14, cs = [.int .i64 x.f0.f0, .int .i64 x.f0.f1, .int .i64 x.f1, .int .i64 x.f2.f0, .int .i64 x.f2.f1, .int .i64 x.f3.f0, .int .i64 x.f3.f1, .int .i64 x.f4.f0, .int .i64 x.f4.f1.f0, .int .i64 x.f4.f1.f1, .int .i64 x.f4.f2.f0, .int .i64 x.f4.f2.f1, .int .i64 x.f4.f3, v13, v14, .bool x.f4.f6, .int .i64 x.f5, .int .i64 x.f6.f0, .int .i64 x.f6.f1, .int .i64 x.f6.f2, .int .i64 x.f6.f3, .int .i64 x.f6.f4, .int .i64 x.f6.f5, .int .i64 x.f6.f6, .bool x.f7] ∧ k61.R 61 w base ok v13 x.f4.f4 ∧ k46.R 46 w base ok v14 x.f4.f5 := by
  obtain ⟨_, _, rfl, s0, ⟨_, _, rfl, rfl, ⟨_, _, rfl, s3, ⟨_, _, rfl, s5, ⟨_, _, rfl, s7, ⟨_, _, rfl, rfl, ⟨_, _, rfl, s17, rfl⟩⟩⟩⟩⟩⟩⟩ := h
  obtain rfl := k24_openM s0
  obtain rfl := k40_openM s3
  obtain rfl := k40_openM s5
  obtain ⟨v13, v14, rfl, g13, g14⟩ := k32_openM s7
  obtain rfl := k42_openM s17
  exact ⟨v13, v14, rfl, g13, g14⟩
theorem k44_mk (w : World) (x : S44) {A13 : Option Addr} {c13 : Nat} (l13 : x.f4.f4.length ≤ c13) (g13 : k61.C w A13 x.f4.f4.length x.f4.f4) {A14 : Option Addr} {c14 : Nat} (l14 : x.f4.f5.length ≤ c14) (g14 : k46.C w A14 x.f4.f5.length x.f4.f5) : k44.K w x [.int .i64 x.f0.f0, .int .i64 x.f0.f1, .int .i64 x.f1, .int .i64 x.f2.f0, .int .i64 x.f2.f1, .int .i64 x.f3.f0, .int .i64 x.f3.f1, .int .i64 x.f4.f0, .int .i64 x.f4.f1.f0, .int .i64 x.f4.f1.f1, .int .i64 x.f4.f2.f0, .int .i64 x.f4.f2.f1, .int .i64 x.f4.f3, .slice A13 x.f4.f4.length c13, .slice A14 x.f4.f5.length c14, .bool x.f4.f6, .int .i64 x.f5, .int .i64 x.f6.f0, .int .i64 x.f6.f1, .int .i64 x.f6.f2, .int .i64 x.f6.f3, .int .i64 x.f6.f4, .int .i64 x.f6.f5, .int .i64 x.f6.f6, .bool x.f7] := ⟨[.int .i64 x.f0.f0, .int .i64 x.f0.f1], [.int .i64 x.f1, .int .i64 x.f2.f0, .int .i64 x.f2.f1, .int .i64 x.f3.f0, .int .i64 x.f3.f1, .int .i64 x.f4.f0, .int .i64 x.f4.f1.f0, .int .i64 x.f4.f1.f1, .int .i64 x.f4.f2.f0, .int .i64 x.f4.f2.f1, .int .i64 x.f4.f3, .slice A13 x.f4.f4.length c13, .slice A14 x.f4.f5.length c14, .bool x.f4.f6, .int .i64 x.f5, .int .i64 x.f6.f0, .int .i64 x.f6.f1, .int .i64 x.f6.f2, .int .i64 x.f6.f3, .int .i64 x.f6.f4, .int .i64 x.f6.f5, .int .i64 x.f6.f6, .bool x.f7], rfl, (k24_mk w x.f0 ), ⟨[.int .i64 x.f1], [.int .i64 x.f2.f0, .int .i64 x.f2.f1, .int .i64 x.f3.f0, .int .i64 x.f3.f1, .int .i64 x.f4.f0, .int .i64 x.f4.f1.f0, .int .i64 x.f4.f1.f1, .int .i64 x.f4.f2.f0, .int .i64 x.f4.f2.f1, .int .i64 x.f4.f3, .slice A13 x.f4.f4.length c13, .slice A14 x.f4.f5.length c14, .bool x.f4.f6, .int .i64 x.f5, .int .i64 x.f6.f0, .int .i64 x.f6.f1, .int .i64 x.f6.f2, .int .i64 x.f6.f3, .int .i64 x.f6.f4, .int .i64 x.f6.f5, .int .i64 x.f6.f6, .bool x.f7], rfl, rfl, ⟨[.int .i64 x.f2.f0, .int .i64 x.f2.f1], [.int .i64 x.f3.f0, .int .i64 x.f3.f1, .int .i64 x.f4.f0, .int .i64 x.f4.f1.f0, .int .i64 x.f4.f1.f1, .int .i64 x.f4.f2.f0, .int .i64 x.f4.f2.f1, .int .i64 x.f4.f3, .slice A13 x.f4.f4.length c13, .slice A14 x.f4.f5.length c14, .bool x.f4.f6, .int .i64 x.f5, .int .i64 x.f6.f0, .int .i64 x.f6.f1, .int .i64 x.f6.f2, .int .i64 x.f6.f3, .int .i64 x.f6.f4, .int .i64 x.f6.f5, .int .i64 x.f6.f6, .bool x.f7], rfl, (k40_mk w x.f2 ), ⟨[.int .i64 x.f3.f0, .int .i64 x.f3.f1], [.int .i64 x.f4.f0, .int .i64 x.f4.f1.f0, .int .i64 x.f4.f1.f1, .int .i64 x.f4.f2.f0, .int .i64 x.f4.f2.f1, .int .i64 x.f4.f3, .slice A13 x.f4.f4.length c13, .slice A14 x.f4.f5.length c14, .bool x.f4.f6, .int .i64 x.f5, .int .i64 x.f6.f0, .int .i64 x.f6.f1, .int .i64 x.f6.f2, .int .i64 x.f6.f3, .int .i64 x.f6.f4, .int .i64 x.f6.f5, .int .i64 x.f6.f6, .bool x.f7], rfl, (k40_mk w x.f3 ), ⟨[.int .i64 x.f4.f0, .int .i64 x.f4.f1.f0, .int .i64 x.f4.f1.f1, .int .i64 x.f4.f2.f0, .int .i64 x.f4.f2.f1, .int .i64 x.f4.f3, .slice A13 x.f4.f4.length c13, .slice A14 x.f4.f5.length c14, .bool x.f4.f6], [.int .i64 x.f5, .int .i64 x.f6.f0, .int .i64 x.f6.f1, .int .i64 x.f6.f2, .int .i64 x.f6.f3, .int .i64 x.f6.f4, .int .i64 x.f6.f5, .int .i64 x.f6.f6, .bool x.f7], rfl, (k32_mk w x.f4 l13 g13 l14 g14), ⟨[.int .i64 x.f5], [.int .i64 x.f6.f0, .int .i64 x.f6.f1, .int .i64 x.f6.f2, .int .i64 x.f6.f3, .int .i64 x.f6.f4, .int .i64 x.f6.f5, .int .i64 x.f6.f6, .bool x.f7], rfl, rfl, ⟨[.int .i64 x.f6.f0, .int .i64 x.f6.f1, .int .i64 x.f6.f2, .int .i64 x.f6.f3, .int .i64 x.f6.f4, .int .i64 x.f6.f5, .int .i64 x.f6.f6], [.bool x.f7], rfl, (k42_mk w x.f6 ), rfl⟩⟩⟩⟩⟩⟩⟩
theorem k44_mkM (w : World) (base : Nat) (ok : Nat → Prop) (x : S44) {v13 : Value} (g13 : k61.R 61 w base ok v13 x.f4.f4) {v14 : Value} (g14 : k46.R 46 w base ok v14 x.f4.f5) : k44.M w base ok x [.int .i64 x.f0.f0, .int .i64 x.f0.f1, .int .i64 x.f1, .int .i64 x.f2.f0, .int .i64 x.f2.f1, .int .i64 x.f3.f0, .int .i64 x.f3.f1, .int .i64 x.f4.f0, .int .i64 x.f4.f1.f0, .int .i64 x.f4.f1.f1, .int .i64 x.f4.f2.f0, .int .i64 x.f4.f2.f1, .int .i64 x.f4.f3, v13, v14, .bool x.f4.f6, .int .i64 x.f5, .int .i64 x.f6.f0, .int .i64 x.f6.f1, .int .i64 x.f6.f2, .int .i64 x.f6.f3, .int .i64 x.f6.f4, .int .i64 x.f6.f5, .int .i64 x.f6.f6, .bool x.f7] := ⟨[.int .i64 x.f0.f0, .int .i64 x.f0.f1], [.int .i64 x.f1, .int .i64 x.f2.f0, .int .i64 x.f2.f1, .int .i64 x.f3.f0, .int .i64 x.f3.f1, .int .i64 x.f4.f0, .int .i64 x.f4.f1.f0, .int .i64 x.f4.f1.f1, .int .i64 x.f4.f2.f0, .int .i64 x.f4.f2.f1, .int .i64 x.f4.f3, v13, v14, .bool x.f4.f6, .int .i64 x.f5, .int .i64 x.f6.f0, .int .i64 x.f6.f1, .int .i64 x.f6.f2, .int .i64 x.f6.f3, .int .i64 x.f6.f4, .int .i64 x.f6.f5, .int .i64 x.f6.f6, .bool x.f7], rfl, (k24_mkM w base ok x.f0 ), ⟨[.int .i64 x.f1], [.int .i64 x.f2.f0, .int .i64 x.f2.f1, .int .i64 x.f3.f0, .int .i64 x.f3.f1, .int .i64 x.f4.f0, .int .i64 x.f4.f1.f0, .int .i64 x.f4.f1.f1, .int .i64 x.f4.f2.f0, .int .i64 x.f4.f2.f1, .int .i64 x.f4.f3, v13, v14, .bool x.f4.f6, .int .i64 x.f5, .int .i64 x.f6.f0, .int .i64 x.f6.f1, .int .i64 x.f6.f2, .int .i64 x.f6.f3, .int .i64 x.f6.f4, .int .i64 x.f6.f5, .int .i64 x.f6.f6, .bool x.f7], rfl, rfl, ⟨[.int .i64 x.f2.f0, .int .i64 x.f2.f1], [.int .i64 x.f3.f0, .int .i64 x.f3.f1, .int .i64 x.f4.f0, .int .i64 x.f4.f1.f0, .int .i64 x.f4.f1.f1, .int .i64 x.f4.f2.f0, .int .i64 x.f4.f2.f1, .int .i64 x.f4.f3, v13, v14, .bool x.f4.f6, .int .i64 x.f5, .int .i64 x.f6.f0, .int .i64 x.f6.f1, .int .i64 x.f6.f2, .int .i64 x.f6.f3, .int .i64 x.f6.f4, .int .i64 x.f6.f5, .int .i64 x.f6.f6, .bool x.f7], rfl, (k40_mkM w base ok x.f2 ), ⟨[.int .i64 x.f3.f0, .int .i64 x.f3.f1], [.int .i64 x.f4.f0, .int .i64 x.f4.f1.f0, .int .i64 x.f4.f1.f1, .int .i64 x.f4.f2.f0, .int .i64 x.f4.f2.f1, .int .i64 x.f4.f3, v13, v14, .bool x.f4.f6, .int .i64 x.f5, .int .i64 x.f6.f0, .int .i64 x.f6.f1, .int .i64 x.f6.f2, .int .i64 x.f6.f3, .int .i64 x.f6.f4, .int .i64 x.f6.f5, .int .i64 x.f6.f6, .bool x.f7], rfl, (k40_mkM w base ok x.f3 ), ⟨[.int .i64 x.f4.f0, .int .i64 x.f4.f1.f0, .int .i64 x.f4.f1.f1, .int .i64 x.f4.f2.f0, .int .i64 x.f4.f2.f1, .int .i64 x.f4.f3, v13, v14, .bool x.f4.f6], [.int .i64 x.f5, .int .i64 x.f6.f0, .int .i64 x.f6.f1, .int .i64 x.f6.f2, .int .i64 x.f6.f3, .int .i64 x.f6.f4, .int .i64 x.f6.f5, .int .i64 x.f6.f6, .bool x.f7], rfl, (k32_mkM w base ok x.f4 g13 g14), ⟨[.int .i64 x.f5], [.int .i64 x.f6.f0, .int .i64 x.f6.f1, .int .i64 x.f6.f2, .int .i64 x.f6.f3, .int .i64 x.f6.f4, .int .i64 x.f6.f5, .int .i64 x.f6.f6, .bool x.f7], rfl, rfl, ⟨[.int .i64 x.f6.f0, .int .i64 x.f6.f1, .int .i64 x.f6.f2, .int .i64 x.f6.f3, .int .i64 x.f6.f4, .int .i64 x.f6.f5, .int .i64 x.f6.f6], [.bool x.f7], rfl, (k42_mkM w base ok x.f6 ), rfl⟩⟩⟩⟩⟩⟩⟩
theorem k44_openF {W : World} {ok : Nat → Prop} {x : S44} {cs : List Value} (h : Kd.FK k44 W ok x cs) : ∃ A13 c13 A14 c14, cs = [.int .i64 x.f0.f0, .int .i64 x.f0.f1, .int .i64 x.f1, .int .i64 x.f2.f0, .int .i64 x.f2.f1, .int .i64 x.f3.f0, .int .i64 x.f3.f1, .int .i64 x.f4.f0, .int .i64 x.f4.f1.f0, .int .i64 x.f4.f1.f1, .int .i64 x.f4.f2.f0, .int .i64 x.f4.f2.f1, .int .i64 x.f4.f3, .slice A13 x.f4.f4.length c13, .slice A14 x.f4.f5.length c14, .bool x.f4.f6, .int .i64 x.f5, .int .i64 x.f6.f0, .int .i64 x.f6.f1, .int .i64 x.f6.f2, .int .i64 x.f6.f3, .int .i64 x.f6.f4, .int .i64 x.f6.f5, .int .i64 x.f6.f6, .bool x.f7] ∧ x.f4.f4.length ≤ c13 ∧ Kd.F k61 W ok A13 x.f4.f4.length x.f4.f4 ∧ x.f4.f5.length ≤ c14 ∧ Kd.F k46 W ok A14 x.f4.f5.length x.f4.f5 := by
  obtain ⟨A13, c13, A14, c14, rfl, l13, _, l14, _⟩ := k44_open (Kd.FK_now h)
  exact ⟨A13, c13, A14, c14, rfl, l13, (fun W' hW => by obtain ⟨A13_, c13_, A14_, c14_, he, l13_, g13_, l14_, g14_⟩ := k44_open (h W' hW); injection (Option.some.inj (show some (Value.slice A13 x.f4.f4.length c13) = some (Value.slice A13_ x.f4.f4.length c13_) from congrArg (fun l => l[13]?) he)) with ha_ _ _; rw [ha_]; exact g13_), l14, (fun W' hW => by obtain ⟨A13_, c13_, A14_, c14_, he, l13_, g13_, l14_, g14_⟩ := k44_open (h W' hW); injection (Option.some.inj (show some (Value.slice A14 x.f4.f5.length c14) = some (Value.slice A14_ x.f4.f5.length c14_) from congrArg (fun l => l[14]?) he)) with ha_ _ _; rw [ha_]; exact g14_)⟩
theorem k44_mkF (W : World) (ok : Nat → Prop) (x : S44) {A13 : Option Addr} {c13 : Nat} (l13 : x.f4.f4.length ≤ c13) (g13 : Kd.F k61 W ok A13 x.f4.f4.length x.f4.f4) {A14 : Option Addr} {c14 : Nat} (l14 : x.f4.f5.length ≤ c14) (g14 : Kd.F k46 W ok A14 x.f4.f5.length x.f4.f5) : Kd.FK k44 W ok x [.int .i64 x.f0.f0, .int .i64 x.f0.f1, .int .i64 x.f1, .int .i64 x.f2.f0, .int .i64 x.f2.f1, .int .i64 x.f3.f0, .int .i64 x.f3.f1, .int .i64 x.f4.f0, .int .i64 x.f4.f1.f0, .int .i64 x.f4.f1.f1, .int .i64 x.f4.f2.f0, .int .i64 x.f4.f2.f1, .int .i64 x.f4.f3, .slice A13 x.f4.f4.length c13, .slice A14 x.f4.f5.length c14, .bool x.f4.f6, .int .i64 x.f5, .int .i64 x.f6.f0, .int .i64 x.f6.f1, .int .i64 x.f6.f2, .int .i64 x.f6.f3, .int .i64 x.f6.f4, .int .i64 x.f6.f5, .int .i64 x.f6.f6, .bool x.f7] := fun W2 hW => k44_mk W2 x l13 (g13 W2 hW) l14 (g14 W2 hW)
def rd_T44 (xs : List S44) (i : Int) : S44 := xs.getD i.toNat z44
theorem at_T44 {w : World} {A : Option Addr} {n : Nat} {xs : List S44} (h : Kd.C k44 w A n xs) (i : Int) (h0 : 0 ≤ i) (h1 : i < n) : ∃ ad A13 c13 A14 c14, A = some ad ∧ w.cell? (ad.add (i.toNat * 25)) = some (.int .i64 (rd_T44 xs i).f0.f0) ∧ w.cell? ⟨(ad.add (i.toNat * 25)).block, (ad.add (i.toNat * 25)).off + 1, none⟩ = some (.int .i64 (rd_T44 xs i).f0.f1) ∧ w.cell? ⟨(ad.add (i.toNat * 25)).block, (ad.add (i.toNat * 25)).off + 2, none⟩ = some (.int .i64 (rd_T44 xs i).f1) ∧ w.cell? ⟨(ad.add (i.toNat * 25)).block, (ad.add (i.toNat * 25)).off + 3, none⟩ = some (.int .i64 (rd_T44 xs i).f2.f0) ∧ w.cell? ⟨(ad.add (i.toNat * 25)).block, (ad.add (i.toNat * 25)).off + 4, none⟩ = some (.int .i64 (rd_T44 xs i).f2.f1) ∧ w.cell? ⟨(ad.add (i.toNat * 25)).block, (ad.add (i.toNat * 25)).off + 5, none⟩ = some (.int .i64 (rd_T44 xs i).f3.f0) ∧ w.cell? ⟨(ad.add (i.toNat * 25)).block, (ad.add (i.toNat * 25)).off + 6, none⟩ = some (.int .i64 (rd_T44 xs i).f3.f1) ∧ w.cell? ⟨(ad.add (i.toNat * 25)).block, (ad.add (i.toNat * 25)).off + 7, none⟩ = some (.int .i64 (rd_T44 xs i).f4.f0) ∧ w.cell? ⟨(ad.add (i.toNat * 25)).block, (ad.add (i.toNat * 25)).off + 8, none⟩ = some (.int .i64 (rd_T44 xs i).f4.f1.f0) ∧ w.cell? ⟨(ad.add (i.toNat * 25)).block, (ad.add (i.toNat * 25)).off + 9, none⟩ = some (.int .i64 (rd_T44 xs i).f4.f1.f1) ∧ w.cell? ⟨(ad.add (i.toNat * 25)).block, (ad.add (i.toNat * 25)).off + 10, none⟩ = some (.int .i64 (rd_T44 xs i).f4.f2.f0) ∧ w.cell? ⟨(ad.add (i.toNat * 25)).block, (ad.add (i.toNat * 25)).off + 11, none⟩ = some (.int .i64 (rd_T44 xs i).f4.f2.f1) ∧ w.cell? ⟨(ad.add (i.toNat * 25)).block, (ad.add (i.toNat * 25)).off + 12, none⟩ = some (.int .i64 (rd_T44 xs i).f4.f3) ∧ w.cell? ⟨(ad.add (i.toNat * 25)).block, (ad.add (i.toNat * 25)).off + 13, none⟩ = some (.slice A13 (rd_T44 xs i).f4.f4.length c13) ∧ w.cell? ⟨(ad.add (i.toNat * 25)).block, (ad.add (i.toNat * 25)).off + 14, none⟩ = some (.slice A14 (rd_T44 xs i).f4.f5.length c14) ∧ w.cell? ⟨(ad.add (i.toNat * 25)).block, (ad.add (i.toNat * 25)).off + 15, none⟩ = some (.bool (rd_T44 xs i).f4.f6) ∧ w.cell? ⟨(ad.add (i.toNat * 25)).block, (ad.add (i.toNat * 25)).off + 16, none⟩ = some (.int .i64 (rd_T44 xs i).f5) ∧ w.cell? ⟨(ad.add (i.toNat * 25)).block, (ad.add (i.toNat * 25)).off + 17, none⟩ = some (.int .i64 (rd_T44 xs i).f6.f0) ∧ w.cell? ⟨(ad.add (i.toNat * 25)).block, (ad.add (i.toNat * 25)).off + 18, none⟩ = some (.int .i64 (rd_T44 xs i).f6.f1) ∧ w.cell? ⟨(ad.add (i.toNat * 25)).block, (ad.add (i.toNat * 25)).off + 19, none⟩ = some (.int .i64 (rd_T44 xs i).f6.f2) ∧ w.cell? ⟨(ad.add (i.toNat * 25)).block, (ad.add (i.toNat * 25)).off + 20, none⟩ = some (.int .i64 (rd_T44 xs i).f6.f3) ∧ w.cell? ⟨(ad.add (i.toNat * 25)).block, (ad.add (i.toNat * 25)).off + 21, none⟩ = some (.int .i64 (rd_T44 xs i).f6.f4) ∧ w.cell? ⟨(ad.add (i.toNat * 25)).block, (ad.add (i.toNat * 25)).off + 22, none⟩ = some (.int .i64 (rd_T44 xs i).f6.f5) ∧ w.cell? ⟨(ad.add (i.toNat * 25)).block, (ad.add (i.toNat * 25)).off + 23, none⟩ = some (.int .i64 (rd_T44 xs i).f6.f6) ∧ w.cell? ⟨(ad.add (i.toNat * 25)).block, (ad.add (i.toNat * 25)).off + 24, none⟩ = some (.bool (rd_T44 xs i).f7) ∧ (rd_T44 xs i).f4.f4.length ≤ c13 ∧ k61.C w A13 (rd_T44 xs i).f4.f4.length (rd_T44 xs i).f4.f4 ∧ (rd_T44 xs i).f4.f5.length ≤ c14 ∧ k46.C w A14 (rd_T44 xs i).f4.f5.length (rd_T44 xs i).f4.f5 := by
  obtain ⟨ad, c, e, _, hK, hc0⟩ := Kd.C_get h z44 i h0 h1
  have hc : ∀ j u, c[j]? = some u → w.cell? (ad.add (i.toNat * 25 + j)) = some u := hc0
  obtain ⟨A13, c13, A14, c14, rfl, l13, g13, l14, g14⟩ := k44_open hK
  exact ⟨ad, A13, c13, A14, c14, e, hc 0 _ rfl, by rw [← add_field _ _ 1 (by omega)]; exact hc 1 _ rfl, by rw [← add_field _ _ 2 (by omega)]; exact hc 2 _ rfl, by rw [← add_field _ _ 3 (by omega)]; exact hc 3 _ rfl, by rw [← add_field _ _ 4 (by omega)]; exact hc 4 _ rfl, by rw [← add_field _ _ 5 (by omega)]; exact hc 5 _ rfl, by rw [← add_field _ _ 6 (by omega)]; exact hc 6 _ rfl, by rw [← add_field _ _ 7 (by omega)]; exact hc 7 _ rfl, by rw [← add_field _ _ 8 (by omega)]; exact hc 8 _ rfl, by rw [← add_field _ _ 9 (by omega)]; exact hc 9 _ rfl, by rw [← add_field _ _ 10 (by omega)]; exact hc 10 _ rfl, by rw [← add_field _ _ 11 (by omega)]; exact hc 11 _ rfl, by rw [← add_field _ _ 12 (by omega)]; exact hc 12 _ rfl, by rw [← add_field _ _ 13 (by omega)]; exact hc 13 _ rfl, by rw [← add_field _ _ 14 (by omega)]; exact hc 14 _ rfl, by rw [← add_field _ _ 15 (by omega)]; exact hc 15 _ rfl, by rw [← add_field _ _ 16 (by omega)]; exact hc 16 _ rfl, by rw [← add_field _ _ 17 (by omega)]; exact hc 17 _ rfl, by rw [← add_field _ _ 18 (by omega)]; exact hc 18 _ rfl, by rw [← add_field _ _ 19 (by omega)]; exact hc 19 _ rfl, by rw [← add_field _ _ 20 (by omega)]; exact hc 20 _ rfl, by rw [← add_field _ _ 21 (by omega)]; exact hc 21 _ rfl, by rw [← add_field _ _ 22 (by omega)]; exact hc 22 _ rfl, by rw [← add_field _ _ 23 (by omega)]; exact hc 23 _ rfl, by rw [← add_field _ _ 24 (by omega)]; exact hc 24 _ rfl, l13, g13, l14, g14⟩

end Go.Proofs.Ytklbmdakoeoplaa.X
end
section
namespace Go.Proofs.Ytklbmdakoeoplaa.X
open Go.RowKit Go.Proofs.YtklbmdakoeoplaaW.PrintWords Go.Proofs.YtklbmdakoeoplaaW.PrintLast Go.Proofs.YtklbmdakoeoplaaW.PrintMore
attribute [local go_sem] max2_int min2_int max_two min_two max_three min_three max_four min_four   -- for this text's walks alone
set_option linter.unusedVariables false
set_option linter.unusedSimpArgs false

theorem eqA24 (d : Nat) (w : World) (x0 y0 : Int) (x1 y1 : Int) :
    (Op.equalIn (d + 2) 24 (.agg #[.int .i64 x0, .int .i64 x1]) (.agg #[.int .i64 y0, .int .i64 y1])).run Try.prog w = .ok (x0 == y0 && (x1 == y1)) w := by
  refine eqA_of Try.underlying24 (by kernel_rfl) ?_
  refine eqf_cons (by rfl) (by go_simp; rfl) (by go_simp; rfl) (by go_simp) ?_
  exact eqf_last (by rfl) (by go_simp; rfl) (by go_simp; rfl) (by go_simp)
end Go.Proofs.Ytklbmdakoeoplaa.X
end
section
namespace Go.Proofs.Ytklbmdakoeoplaa
open Go.RowKit
/-- A world that has only grown since W. -/
structure Ext (W : World) where
  w : World
  below : Below W.heap.size W w
instance (W : World) : Nonempty (Ext W) := ⟨⟨W, Below.refl _ _⟩⟩
theorem Ext.cell {W : World} (X : Ext W) (b o : Nat) (h : b < W.heap.size) : X.w.cell? ⟨b, o, none⟩ = W.cell? ⟨b, o, none⟩ := X.below.cell (p := ⟨b, o, none⟩) h
theorem Ext.frozen {W : World} (X : Ext W) (b o : Nat) (h : b < W.heap.size) : X.w.frozen? ⟨b, o, none⟩ = W.frozen? ⟨b, o, none⟩ := X.below.frozen (p := ⟨b, o, none⟩) h
theorem Ext.size {W : World} (X : Ext W) : W.heap.size ≤ X.w.heap.size := X.below.size
theorem calls_ext {P : Program} {f : FuncId} {args : Array Value} {W : World} {X : Ext W} {v : Value} (h : Calls P f args X.w fun e w' => e = .returned v ∧ Below X.w.heap.size X.w w') :
    Calls P f args X.w fun e w'' => e = .returned v ∧ ∃ Y : Ext W, w'' = Y.w :=
  h.mono fun _ w' ⟨he, hb⟩ => ⟨he, ⟨w', X.below.trans (hb.mono X.below.size)⟩, rfl⟩
theorem calls_to_ext {P : Program} {f : FuncId} {args : Array Value} {W : World} {v : Value} (h : Calls P f args W fun e w' => e = .returned v ∧ Below W.heap.size W w') :
    Calls P f args W fun e w'' => e = .returned v ∧ ∃ Y : Ext W, w'' = Y.w :=
  h.mono fun _ w' ⟨he, hb⟩ => ⟨he, ⟨w', hb⟩, rfl⟩
theorem Ext.grown {B : Nat} {w W : World} (X : Ext W) (h : Below B w W) (hB : B ≤ W.heap.size) : Below B w X.w := h.trans (X.below.mono hB)
theorem Ext.cell_set {W : World} (X : Ext W) (b o : Nat) (v : Value) (h : b < W.heap.size) (hs : (W.cell? ⟨b, o, none⟩).isSome = true) : (X.w.setCell ⟨b, o, none⟩ v).cell? ⟨b, o, none⟩ = some v :=
  World.cell?_setCell_same' _ _ _ (by rw [X.cell b o h]; exact hs)
theorem below_drewN {B : Nat} {a w : World} (h : Below B a w) (n : Nat) : Below B a (w.drewN n) := ⟨h.os, h.tape, h.output, h.size, h.block⟩
theorem wp_region_ext {P : Program} {id : Nat} {Q : Exit → Act → World → Prop} {a : Act} {w : World} {l : List Oper} (hm : P.follows .mixedOrders = true) (hB : Region.lexB .any l.toArray = true)
    (h : wpQuiet P l.toArray (fun w' => ∃ X : Ext w, w' = X.w) (fun a' => ∀ w', (∃ X : Ext w, w' = X.w) → Q .normal a' w') l a) : (Code.region id l.toArray true).wp P Q a w :=
  wp_region_quiet (C := fun w' => ∃ X : Ext w, w' = X.w) hm hB ⟨⟨w.drew, (Below.refl _ _).drew⟩, rfl⟩ (by simpa using h)
theorem max2_int (k k' : IntKind) (x y : Int) : Builtin.max2 (.int k x) (.int k' y) = pure (.int k (max x y)) := by
  simp only [Builtin.max2, gt_iff_lt]; congr 2; omega
theorem min2_int (k k' : IntKind) (x y : Int) : Builtin.min2 (.int k x) (.int k' y) = pure (.int k (min x y)) := by
  simp only [Builtin.min2]; congr 2; omega
theorem max_two (ats : Array TypeId) (ty : TypeId) (a b : Value) : Builtin.max_ ats ty #[a, b] = (Builtin.max2 a b >>= fun s => pure s) := by simp only [Builtin.max_, List.foldlM_cons, List.foldlM_nil]
theorem min_two (ats : Array TypeId) (ty : TypeId) (a b : Value) : Builtin.min_ ats ty #[a, b] = (Builtin.min2 a b >>= fun s => pure s) := by simp only [Builtin.min_, List.foldlM_cons, List.foldlM_nil]
theorem run_index_arr {P : Program} (T e : TypeId) (n : Nat) (k : IntKind) (z : IntKind) (hT : P.underlying T = some (.array n e)) (he : P.underlying e = some (.int z)) (hs : (P.info? e).map (·.size) = some 1)
    (w : World) (cs : Array Value) (i : Int) (h0 : 0 ≤ i) (h1 : i < n) (hc : cs.size = n) :
    (Instr.index T (.agg cs) (.int k i)).run P w = .ok (cs.getD i.toNat undef) w := by
  obtain ⟨ti, hi, hs1⟩ := Option.map_eq_some_iff.1 hs
  have hi2 : i.toNat < cs.size := by omega
  have hagg : (isAgg e).run P w = .ok false w := by
    unfold isAgg
    rw [Sem.run_bind, run_underlying he w]
    simp
  simp [Instr.index, asIntOf, Sem.run_bind, run_underlying hT, h0, h1, sizeOf, typeInfo, hi, hs1, part, hagg, hi2]
theorem run_part_int {P : Program} (e : TypeId) (z : IntKind) (he : P.underlying e = some (.int z)) (w : World) (cs : Array Value) (i : Nat) (v : Value) (hi : cs[i]? = some v) :
    (part e cs i).run P w = .ok v w := by
  have hagg : (isAgg e).run P w = .ok false w := by
    unfold isAgg
    rw [Sem.run_bind, run_underlying he w]
    simp
  simp [part, Sem.run_bind, hagg, hi]
def eqInts (d : Nat) (e : TypeId) (xs ys : Array Value) : List Nat → Sem Bool
  | [] => pure true
  | i :: is => do
    let a ← part e xs i
    let b ← part e ys i
    let r ← Op.equalIn d e a b
    if (!r) = true then pure false else eqInts d e xs ys is
theorem run_equalIn_arr {P : Program} (w : World) (d n : Nat) (T e : TypeId) (xs ys : Array Value) (hT : P.underlying T = some (.array n e)) (hs : (P.info? e).map (·.size) = some 1) :
    (Op.equalIn (d + 1) T (.agg xs) (.agg ys)).run P w = (eqInts d e xs ys (List.range n)).run P w := by
  obtain ⟨ti, hi, hs1⟩ := Option.map_eq_some_iff.1 hs
  simp only [Op.equalIn, Sem.run_bind, run_underlying hT, Result.andThen_ok, sizeOf, typeInfo, run_program, hi, hs1, Sem.run_pure, Nat.mul_one, Std.Legacy.Range.forIn_eq_forIn_range']
  simp only [Std.Legacy.Range.size, Nat.sub_zero, Nat.add_sub_cancel, Nat.div_one, ← List.range_eq_range']
  generalize List.range n = l
  induction l generalizing w with
  | nil => simp [eqInts]
  | cons i is ih =>
    simp only [List.forIn_cons, eqInts, Sem.run_bind, Sem.run_ite]
    generalize (part e xs i).run P w = r1
    cases r1 with
    | ok a w1 =>
      simp only [Result.andThen_ok]
      generalize (part e ys i).run P w1 = r2
      cases r2 with
      | ok b w2 =>
        simp only [Result.andThen_ok]
        generalize (Op.equalIn d e a b).run P w2 = r3
        cases r3 with
        | ok r w3 =>
          cases r
          · simp only [Result.andThen_ok, Bool.not_false, if_true, Sem.run_pure]
          · simp only [Result.andThen_ok, Bool.not_true, Bool.false_eq_true, if_false, Sem.run_pure]
            exact ih w3
        | halt x w3 => simp [Result.andThen]
      | halt x w2 => simp [Result.andThen]
    | halt x w1 => simp [Result.andThen]
theorem run_eqInts_cons {P : Program} (w : World) (d : Nat) (e : TypeId) (z : IntKind) (he : P.underlying e = some (.int z)) (xs ys : Array Value) (i : Nat) (is : List Nat) (k : IntKind) (x y : Int) (hx : xs[i]? = some (.int k x)) (hy : ys[i]? = some (.int k y)) (b : Bool)
    (ht : (eqInts (d + 1) e xs ys is).run P w = .ok b w) : (eqInts (d + 1) e xs ys (i :: is)).run P w = .ok (x == y && b) w := by
  simp only [eqInts, Sem.run_bind, run_part_int e z he w xs i _ hx, run_part_int e z he w ys i _ hy, Result.andThen_ok, run_equalIn_int (h := he)]
  cases h : (x == y) <;> simp [ht]
theorem run_equalIn_arr7 {P : Program} (w : World) (d : Nat) (T e : TypeId) (z k : IntKind) (hT : P.underlying T = some (.array 7 e)) (he : P.underlying e = some (.int z)) (hs : (P.info? e).map (·.size) = some 1) (x0 x1 x2 x3 x4 x5 x6 y0 y1 y2 y3 y4 y5 y6 : Int) :
    (Op.equalIn (d + 2) T (.agg #[.int k x0, .int k x1, .int k x2, .int k x3, .int k x4, .int k x5, .int k x6]) (.agg #[.int k y0, .int k y1, .int k y2, .int k y3, .int k y4, .int k y5, .int k y6])).run P w =
      .ok (x0 == y0 && (x1 == y1 && (x2 == y2 && (x3 == y3 && (x4 == y4 && (x5 == y5 && (x6 == y6 && true))))))) w := by
  rw [run_equalIn_arr w (d + 1) 7 T e _ _ hT hs]
  show (eqInts (d + 1) e _ _ [0, 1, 2, 3, 4, 5, 6]).run P w = _
  refine run_eqInts_cons w d e z he _ _ _ _ k _ _ rfl rfl _ ?_
  refine run_eqInts_cons w d e z he _ _ _ _ k _ _ rfl rfl _ ?_
  refine run_eqInts_cons w d e z he _ _ _ _ k _ _ rfl rfl _ ?_
  refine run_eqInts_cons w d e z he _ _ _ _ k _ _ rfl rfl _ ?_
  refine run_eqInts_cons w d e z he _ _ _ _ k _ _ rfl rfl _ ?_
  refine run_eqInts_cons w d e z he _ _ _ _ k _ _ rfl rfl _ ?_
  refine run_eqInts_cons w d e z he _ _ _ _ k _ _ rfl rfl _ ?_
  simp [eqInts]
theorem szlt1 (n : Nat) : (n < n + 1) = True := eq_true (by omega)
theorem szlt2 (n : Nat) : (n < n + 1 + 1) = True := eq_true (by omega)
theorem szlt3 (n : Nat) : (n < n + 1 + 1 + 1) = True := eq_true (by omega)
theorem szlt4 (n : Nat) : (n < n + 1 + 1 + 1 + 1) = True := eq_true (by omega)
theorem szlt5 (n : Nat) : (n < n + 1 + 1 + 1 + 1 + 1) = True := eq_true (by omega)
theorem szlt6 (n : Nat) : (n < n + 1 + 1 + 1 + 1 + 1 + 1) = True := eq_true (by omega)
theorem ret_bool {a b : Bool} (h : a = b) : Ending.returned (.bool a) = .returned (.bool b) := by rw [h]
end Go.Proofs.Ytklbmdakoeoplaa
end
section
namespace Go.Proofs.Ytklbmdakoeoplaa
open Go.RowKit Go.Proofs.YtklbmdakoeoplaaW.PrintWords Go.Proofs.YtklbmdakoeoplaaW.PrintLast Go.Proofs.YtklbmdakoeoplaaW.PrintMore
set_option linter.unusedVariables false
theorem mx_eq (a b : Int) : mx a b = max a b := by unfold mx; split <;> omega
theorem mn_eq (a b : Int) : mn a b = min a b := by unfold mn; split <;> omega
section
variable {P : Program} {ops : Array Oper} {rest : List Oper} {o o1 o2 : Oper} {a : Act} {Q : Exit → Act → World → Prop}
/-- A new variable that is written whole at once. -/
theorem alloc_store_event {W : World} (hg1 : o1.guard = none) {N : Tmp} (hd1 : o1.dst = some N) (hg2 : o2.guard = none) (hd2 : o2.dst = none) {t : TypeId} {x : Operand} (ho2 : o2.op = .store t (.tmp N) x) {cs0 cs : Array Value}
    (hrun : (execOp a.eval o1).run P W = .ok (.value (.pointer (some ⟨W.heap.size, 0, none⟩))) (W.alloc (.cells cs0 t (0, 0))))
    (hp : (a.put (some N) (.pointer (some ⟨W.heap.size, 0, none⟩))).eval (.tmp N) = .pointer (some ⟨W.heap.size, 0, none⟩))
    (hx : (a.put (some N) (.pointer (some ⟨W.heap.size, 0, none⟩))).eval x = .agg cs) (hsz : cs.size = cs0.size) (h1 : cs.toList.all (fun q => q.oneCell') = true) (ht : (P.info? t).map (·.size) = some cs.size)
    (h : ∀ g, g = W.heap.size → ∀ w1, w1.heap[g]? = some (.cells cs t (0, 0)) → Below W.heap.size W w1 → wpList P ops Q rest (a.put o1.dst (.pointer (some ⟨g, 0, none⟩))) w1) : wpList P ops Q (o1 :: o2 :: rest) a W := by
  have hb0 := blk_new W (.cells cs0 t (0, 0))
  obtain ⟨cur', h3, h4, h5⟩ := setCells_row cs.toList 0 (W.alloc (.cells cs0 t (0, 0))) cs0 hb0 (by simp [hsz])
  have hc : cur' = cs := by
    apply Array.toList_inj.1
    rw [h5]; simp [hsz]
  subst hc
  obtain ⟨s1, s2, s3, s4⟩ := setCells_same W.heap.size cur'.toList 0 (W.alloc (.cells cs0 t (0, 0)))
  have hB0 := below_alloc (Below.refl W.heap.size W) (.cells cs0 t (0, 0))
  have hB : Below W.heap.size W ((W.alloc (.cells cs0 t (0, 0))).setCells W.heap.size 0 cur'.toList) :=
    hB0.trans ⟨s1, s2, s3, by rw [s4]; exact Nat.le_refl _, fun k hk => setCells_far _ _ k (by omega)⟩
  refine Kd.event_run hg1 hrun ?_
  rw [hd1]
  refine wpList_plain hg2 fun K hK => ?_
  have hst : (Instr.storeAt t (.pointer (some ⟨W.heap.size, 0, none⟩)) (.agg cur')).run P (W.alloc (.cells cs0 t (0, 0))) = .ok () ((W.alloc (.cells cs0 t (0, 0))).setCells W.heap.size 0 cur'.toList) :=
    run_store_run t (.agg cur') cur'.toList hb0 rfl (by rw [ht, Array.length_toList]) (by simp [hsz]) (fun q hq => by
      exact List.all_eq_true.1 h1 q hq)
  unfold Oper.wp execOp
  simp only [ho2, hp, hx, Sem.run_bind, Sem.run_pure, Result.andThen_ok, hst]
  show K ((a.put (some N) _).put o2.dst undef) _
  rw [hd2]
  have h6 := h _ rfl _ h3 hB
  rw [hd1] at h6
  exact hK _ _ h6
/-- The same, with something set aside between. -/
theorem alloc_mid_store_event {om : Oper} {W : World} (hg1 : o1.guard = none) {N : Tmp} (hd1 : o1.dst = some N) (hgm : om.guard = none) (hg2 : o2.guard = none) (hd2 : o2.dst = none) {t : TypeId} {x : Operand} (ho2 : o2.op = .store t (.tmp N) x) {cs0 cs : Array Value} {v : Value}
    (hrun : (execOp a.eval o1).run P W = .ok (.value (.pointer (some ⟨W.heap.size, 0, none⟩))) (W.alloc (.cells cs0 t (0, 0))))
    (hrm : (execOp (a.put (some N) (.pointer (some ⟨W.heap.size, 0, none⟩))).eval om).run P (W.alloc (.cells cs0 t (0, 0))) = .ok (.value v) (W.alloc (.cells cs0 t (0, 0))))
    (hp : ((a.put (some N) (.pointer (some ⟨W.heap.size, 0, none⟩))).put om.dst v).eval (.tmp N) = .pointer (some ⟨W.heap.size, 0, none⟩))
    (hx : ((a.put (some N) (.pointer (some ⟨W.heap.size, 0, none⟩))).put om.dst v).eval x = .agg cs) (hsz : cs.size = cs0.size) (h1 : cs.toList.all (fun q => q.oneCell') = true) (ht : (P.info? t).map (·.size) = some cs.size)
    (h : ∀ g, g = W.heap.size → ∀ w1, w1.heap[g]? = some (.cells cs t (0, 0)) → Below W.heap.size W w1 → wpList P ops Q rest ((a.put o1.dst (.pointer (some ⟨g, 0, none⟩))).put om.dst v) w1) : wpList P ops Q (o1 :: om :: o2 :: rest) a W := by
  have hb0 := blk_new W (.cells cs0 t (0, 0))
  obtain ⟨cur', h3, h4, h5⟩ := setCells_row cs.toList 0 (W.alloc (.cells cs0 t (0, 0))) cs0 hb0 (by simp [hsz])
  have hc : cur' = cs := by
    apply Array.toList_inj.1
    rw [h5]; simp [hsz]
  subst hc
  obtain ⟨s1, s2, s3, s4⟩ := setCells_same W.heap.size cur'.toList 0 (W.alloc (.cells cs0 t (0, 0)))
  have hB0 := below_alloc (Below.refl W.heap.size W) (.cells cs0 t (0, 0))
  have hB : Below W.heap.size W ((W.alloc (.cells cs0 t (0, 0))).setCells W.heap.size 0 cur'.toList) :=
    hB0.trans ⟨s1, s2, s3, by rw [s4]; exact Nat.le_refl _, fun k hk => setCells_far _ _ k (by omega)⟩
  refine Kd.event_run hg1 hrun ?_
  rw [hd1]
  refine Kd.event_run hgm hrm ?_
  refine wpList_plain hg2 fun K hK => ?_
  have hst : (Instr.storeAt t (.pointer (some ⟨W.heap.size, 0, none⟩)) (.agg cur')).run P (W.alloc (.cells cs0 t (0, 0))) = .ok () ((W.alloc (.cells cs0 t (0, 0))).setCells W.heap.size 0 cur'.toList) :=
    run_store_run t (.agg cur') cur'.toList hb0 rfl (by rw [ht, Array.length_toList]) (by simp [hsz]) (fun q hq => by
      exact List.all_eq_true.1 h1 q hq)
  unfold Oper.wp execOp
  simp only [ho2, hp, hx, Sem.run_bind, Sem.run_pure, Result.andThen_ok, hst]
  show K (((a.put (some N) _).put om.dst v).put o2.dst undef) _
  rw [hd2]
  have h6 := h _ rfl _ h3 hB
  rw [hd1] at h6
  exact hK _ _ h6
/-- A load of a whole struct, told by its run. -/
theorem load_event {W : World} (hgd : o.guard = none) {N : Tmp} (_hd : o.dst = some N) {t : TypeId} {x : Operand} (ho : o.op = .load t x) {p : Addr} {v : Value} (hx : a.eval x = .pointer (some p)) (hrun : (loadVar t p).run P W = .ok v W)
    (h : wpList P ops Q rest (a.put o.dst v) W) : wpList P ops Q (o :: rest) a W := by
  refine wpList_plain hgd fun K hK => ?_
  unfold Oper.wp execOp
  simp only [ho, hx, Instr.loadAt, Instr.sureAddr, Sem.run_bind, Sem.run_pure, Result.andThen_ok, hrun]
  exact hK _ _ h
end
end Go.Proofs.Ytklbmdakoeoplaa
end
section
namespace Go.Proofs.Ytklbmdakoeoplaa
open Go.RowKit Go.Proofs.YtklbmdakoeoplaaW.PrintWords Go.Proofs.YtklbmdakoeoplaaW.PrintLast Go.Proofs.YtklbmdakoeoplaaW.PrintMore
set_option linter.unusedVariables false
/-- Cells that stand in a row from place k on. -/
def CellsAt (W : World) (p : Addr) : Nat → List Value → Prop
  | _, [] => True
  | k, v :: vs => W.cell? ⟨p.block, p.off + k, none⟩ = some v ∧ CellsAt W p (k + 1) vs
theorem CellsAt.get {W : World} {p : Addr} : ∀ (cs : List Value) (k : Nat), CellsAt W p k cs → ∀ j v, cs[j]? = some v → W.cell? ⟨p.block, p.off + (k + j), none⟩ = some v
  | [], _, _, j, v, h => by simp at h
  | c :: cs, k, hc, 0, v, h => by
    obtain rfl : c = v := by simpa using h
    exact hc.1
  | c :: cs, k, hc, j + 1, v, h => by
    have := CellsAt.get cs (k + 1) hc.2 j v (by simpa using h)
    rwa [show k + 1 + j = k + (j + 1) by omega] at this
theorem plain_addr {w : World} {ad : Addr} {v : Value} (h : w.cell? ad = some v) : ∃ b o, ad = ⟨b, o, none⟩ := by
  obtain ⟨b, o, s⟩ := ad
  cases s with
  | none => exact ⟨b, o, rfl⟩
  | some x =>
    exfalso
    simp only [World.cell?] at h
    split at h <;> simp at h
theorem cells_load_event {P : Program} {ops : Array Oper} {rest : List Oper} {o : Oper} {a : Act} {Q : Exit → Act → World → Prop} {W : World} (hgd : o.guard = none) {N : Tmp} (hd : o.dst = some N) {t : TypeId} {x : Operand} (ho : o.op = .load t x) {p : Addr} (hx : a.eval x = .pointer (some p))
    {v : Value} {cs : List Value} (hD : ∃ D, P.underlying t = some D ∧ (match D with | .struct _ | .array _ _ => true | _ => false) = true) (ht : (P.info? t).map (·.size) = some (cs.length + 1)) (h0 : W.cell? p = some v) (hc : CellsAt W p 1 cs)
    (h : wpList P ops Q rest (a.put o.dst (.agg (v :: cs).toArray)) W) : wpList P ops Q (o :: rest) a W := by
  refine load_event hgd hd ho hx ?_ h
  obtain ⟨D, hu, hD⟩ := hD
  obtain ⟨b, of, rfl⟩ := plain_addr h0
  have hcells : (loadCells ⟨b, of, none⟩ (v :: cs).length).run P W = .ok (v :: cs).toArray W := run_loadCells_list (P := P) W ⟨b, of, none⟩ (v :: cs) (fun j u hu => by
    have ha : (⟨b, of, none⟩ : Addr).add j = ⟨b, of + j, none⟩ := by unfold Addr.add; split <;> simp_all
    rw [ha]
    cases j with
    | zero =>
      obtain rfl : v = u := by simpa using hu
      exact h0
    | succ j =>
      have := CellsAt.get cs 1 hc j u (by simpa using hu)
      rwa [show 1 + j = j + 1 by omega] at this)
  have hagg : (isAgg t).run P W = .ok true W := by
    unfold isAgg
    rw [Sem.run_bind, run_underlying hu W]
    cases D <;> simp_all
  obtain ⟨ti, hi, hs⟩ := Option.map_eq_some_iff.1 ht
  rw [List.length_cons] at hcells
  simp [loadVar, Sem.run_bind, hagg, sizeOf, typeInfo, hi, hs, hcells]
/-- A variable of many cells, loaded whole. -/
theorem blk_load_event {P : Program} {ops : Array Oper} {rest : List Oper} {o : Oper} {a : Act} {Q : Exit → Act → World → Prop} {W : World} (hgd : o.guard = none) {N : Tmp} (hd : o.dst = some N) {t : TypeId} {x : Operand} (ho : o.op = .load t x) {g : Nat} (hx : a.eval x = .pointer (some ⟨g, 0, none⟩))
    {cs : Array Value} {t' : TypeId} (hb : W.heap[g]? = some (.cells cs t' (0, 0))) (hD : ∃ D, P.underlying t = some D ∧ (match D with | .struct _ | .array _ _ => true | _ => false) = true) (ht : (P.info? t).map (·.size) = some cs.size)
    (h : wpList P ops Q rest (a.put o.dst (.agg cs)) W) : wpList P ops Q (o :: rest) a W := by
  refine load_event hgd hd ho hx ?_ h
  obtain ⟨D, hu, hD⟩ := hD
  have hcells : (loadCells ⟨g, 0, none⟩ cs.size).run P W = .ok cs W := by
    have := run_loadCells_list (P := P) W ⟨g, 0, none⟩ cs.toList (fun j u hu => by
      have ha : (⟨g, 0, none⟩ : Addr).add j = ⟨g, j, none⟩ := by unfold Addr.add; split <;> simp_all
      rw [ha, blk_cell hb j]
      rwa [Array.getElem?_toList] at hu)
    rw [Array.length_toList] at this
    simpa using this
  have hagg : (isAgg t).run P W = .ok true W := by
    unfold isAgg
    rw [Sem.run_bind, run_underlying hu W]
    cases D <;> simp_all
  obtain ⟨ti, hi, hs⟩ := Option.map_eq_some_iff.1 ht
  simp [loadVar, Sem.run_bind, hagg, sizeOf, typeInfo, hi, hs, hcells]
/-- The same, in a region that draws. -/
theorem blk_yield {P : Program} {o : Oper} {a : Act} {W : World} {t : TypeId} {x : Operand} (ho : o.op = .load t x) {g : Nat} (hx : a.eval x = .pointer (some ⟨g, 0, none⟩))
    {cs : Array Value} {t' : TypeId} (hb : W.heap[g]? = some (.cells cs t' (0, 0))) (hD : ∃ D, P.underlying t = some D ∧ (match D with | .struct _ | .array _ _ => true | _ => false) = true) (ht : (P.info? t).map (·.size) = some cs.size) :
    (execOp a.eval o).run P W = .ok (.value (.agg cs)) W := by
  obtain ⟨D, hu, hD⟩ := hD
  have hcells : (loadCells ⟨g, 0, none⟩ cs.size).run P W = .ok cs W := by
    have := run_loadCells_list (P := P) W ⟨g, 0, none⟩ cs.toList (fun j u hu => by
      have ha : (⟨g, 0, none⟩ : Addr).add j = ⟨g, j, none⟩ := by unfold Addr.add; split <;> simp_all
      rw [ha, blk_cell hb j]
      rwa [Array.getElem?_toList] at hu)
    rw [Array.length_toList] at this
    simpa using this
  have hagg : (isAgg t).run P W = .ok true W := by
    unfold isAgg
    rw [Sem.run_bind, run_underlying hu W]
    cases D <;> simp_all
  obtain ⟨ti, hi, hs⟩ := Option.map_eq_some_iff.1 ht
  have hrun : (loadVar t ⟨g, 0, none⟩).run P W = .ok (.agg cs) W := by
    simp [loadVar, Sem.run_bind, hagg, sizeOf, typeInfo, hi, hs, hcells]
  unfold execOp
  simp only [ho, hx, Instr.loadAt, Instr.sureAddr, Sem.run_bind, Sem.run_pure, Result.andThen_ok, hrun]
def LoadsAt (o : Oper) (a : Act) (T : TypeId) (g : Nat) : Prop := match o.op with
  | .load t x => t = T ∧ a.eval x = .pointer (some ⟨g, 0, none⟩)
  | _ => False
theorem blk_yield2 {P : Program} {o : Oper} {a : Act} {W : World} {T : TypeId} {g : Nat} {cs : Array Value} {t' : TypeId} (hb : W.heap[g]? = some (.cells cs t' (0, 0))) (hl : LoadsAt o a T g)
    (hD : ∃ D, P.underlying T = some D ∧ (match D with | .struct _ | .array _ _ => true | _ => false) = true) (ht : (P.info? T).map (·.size) = some cs.size) :
    (execOp a.eval o).run P W = .ok (.value (.agg cs)) W := by
  unfold LoadsAt at hl
  split at hl
  · rename_i t x ho
    obtain ⟨rfl, hx⟩ := hl
    exact blk_yield ho hx hb hD ht
  · exact hl.elim
end Go.Proofs.Ytklbmdakoeoplaa
end
section
namespace Go.Proofs.Ytklbmdakoeoplaa.X
open Go.RowKit Go.Proofs.YtklbmdakoeoplaaW.PrintWords Go.Proofs.YtklbmdakoeoplaaW.PrintLast Go.Proofs.YtklbmdakoeoplaaW.PrintMore
set_option linter.unusedVariables false
theorem blk2_ {C : Prop} {w : World} {g : Nat} {t : TypeId} {c0 c1 : Value} (h : w.heap[g]? = some (.cells #[c0, c1] t (0, 0)))
    (k : w.cell? ⟨g, 0, none⟩ = some c0 → w.cell? ⟨g, 1, none⟩ = some c1 → w.frozen? ⟨g, 0, none⟩ = false → w.frozen? ⟨g, 1, none⟩ = false → C) : C :=
  k ((blk_cell h 0).trans rfl) ((blk_cell h 1).trans rfl) (blk_frozen h 0) (blk_frozen h 1)
theorem blk3_ {C : Prop} {w : World} {g : Nat} {t : TypeId} {c0 c1 c2 : Value} (h : w.heap[g]? = some (.cells #[c0, c1, c2] t (0, 0)))
    (k : w.cell? ⟨g, 0, none⟩ = some c0 → w.cell? ⟨g, 1, none⟩ = some c1 → w.cell? ⟨g, 2, none⟩ = some c2 → w.frozen? ⟨g, 0, none⟩ = false → w.frozen? ⟨g, 1, none⟩ = false → w.frozen? ⟨g, 2, none⟩ = false → C) : C :=
  k ((blk_cell h 0).trans rfl) ((blk_cell h 1).trans rfl) ((blk_cell h 2).trans rfl) (blk_frozen h 0) (blk_frozen h 1) (blk_frozen h 2)
theorem blk7_ {C : Prop} {w : World} {g : Nat} {t : TypeId} {c0 c1 c2 c3 c4 c5 c6 : Value} (h : w.heap[g]? = some (.cells #[c0, c1, c2, c3, c4, c5, c6] t (0, 0)))
    (k : w.cell? ⟨g, 0, none⟩ = some c0 → w.cell? ⟨g, 1, none⟩ = some c1 → w.cell? ⟨g, 2, none⟩ = some c2 → w.cell? ⟨g, 3, none⟩ = some c3 → w.cell? ⟨g, 4, none⟩ = some c4 → w.cell? ⟨g, 5, none⟩ = some c5 → w.cell? ⟨g, 6, none⟩ = some c6 → w.frozen? ⟨g, 0, none⟩ = false → w.frozen? ⟨g, 1, none⟩ = false → w.frozen? ⟨g, 2, none⟩ = false → w.frozen? ⟨g, 3, none⟩ = false → w.frozen? ⟨g, 4, none⟩ = false → w.frozen? ⟨g, 5, none⟩ = false → w.frozen? ⟨g, 6, none⟩ = false → C) : C :=
  k ((blk_cell h 0).trans rfl) ((blk_cell h 1).trans rfl) ((blk_cell h 2).trans rfl) ((blk_cell h 3).trans rfl) ((blk_cell h 4).trans rfl) ((blk_cell h 5).trans rfl) ((blk_cell h 6).trans rfl) (blk_frozen h 0) (blk_frozen h 1) (blk_frozen h 2) (blk_frozen h 3) (blk_frozen h 4) (blk_frozen h 5) (blk_frozen h 6)
theorem blk9_ {C : Prop} {w : World} {g : Nat} {t : TypeId} {c0 c1 c2 c3 c4 c5 c6 c7 c8 : Value} (h : w.heap[g]? = some (.cells #[c0, c1, c2, c3, c4, c5, c6, c7, c8] t (0, 0)))
    (k : w.cell? ⟨g, 0, none⟩ = some c0 → w.cell? ⟨g, 1, none⟩ = some c1 → w.cell? ⟨g, 2, none⟩ = some c2 → w.cell? ⟨g, 3, none⟩ = some c3 → w.cell? ⟨g, 4, none⟩ = some c4 → w.cell? ⟨g, 5, none⟩ = some c5 → w.cell? ⟨g, 6, none⟩ = some c6 → w.cell? ⟨g, 7, none⟩ = some c7 → w.cell? ⟨g, 8, none⟩ = some c8 → w.frozen? ⟨g, 0, none⟩ = false → w.frozen? ⟨g, 1, none⟩ = false → w.frozen? ⟨g, 2, none⟩ = false → w.frozen? ⟨g, 3, none⟩ = false → w.frozen? ⟨g, 4, none⟩ = false → w.frozen? ⟨g, 5, none⟩ = false → w.frozen? ⟨g, 6, none⟩ = false → w.frozen? ⟨g, 7, none⟩ = false → w.frozen? ⟨g, 8, none⟩ = false → C) : C :=
  k ((blk_cell h 0).trans rfl) ((blk_cell h 1).trans rfl) ((blk_cell h 2).trans rfl) ((blk_cell h 3).trans rfl) ((blk_cell h 4).trans rfl) ((blk_cell h 5).trans rfl) ((blk_cell h 6).trans rfl) ((blk_cell h 7).trans rfl) ((blk_cell h 8).trans rfl) (blk_frozen h 0) (blk_frozen h 1) (blk_frozen h 2) (blk_frozen h 3) (blk_frozen h 4) (blk_frozen h 5) (blk_frozen h 6) (blk_frozen h 7) (blk_frozen h 8)
theorem blk25_ {C : Prop} {w : World} {g : Nat} {t : TypeId} {c0 c1 c2 c3 c4 c5 c6 c7 c8 c9 c10 c11 c12 c13 c14 c15 c16 c17 c18 c19 c20 c21 c22 c23 c24 : Value} (h : w.heap[g]? = some (.cells #[c0, c1, c2, c3, c4, c5, c6, c7, c8, c9, c10, c11, c12, c13, c14, c15, c16, c17, c18, c19, c20, c21, c22, c23, c24] t (0, 0)))
    (k : w.cell? ⟨g, 0, none⟩ = some c0 → w.cell? ⟨g, 1, none⟩ = some c1 → w.cell? ⟨g, 2, none⟩ = some c2 → w.cell? ⟨g, 3, none⟩ = some c3 → w.cell? ⟨g, 4, none⟩ = some c4 → w.cell? ⟨g, 5, none⟩ = some c5 → w.cell? ⟨g, 6, none⟩ = some c6 → w.cell? ⟨g, 7, none⟩ = some c7 → w.cell? ⟨g, 8, none⟩ = some c8 → w.cell? ⟨g, 9, none⟩ = some c9 → w.cell? ⟨g, 10, none⟩ = some c10 → w.cell? ⟨g, 11, none⟩ = some c11 → w.cell? ⟨g, 12, none⟩ = some c12 → w.cell? ⟨g, 13, none⟩ = some c13 → w.cell? ⟨g, 14, none⟩ = some c14 → w.cell? ⟨g, 15, none⟩ = some c15 → w.cell? ⟨g, 16, none⟩ = some c16 → w.cell? ⟨g, 17, none⟩ = some c17 → w.cell? ⟨g, 18, none⟩ = some c18 → w.cell? ⟨g, 19, none⟩ = some c19 → w.cell? ⟨g, 20, none⟩ = some c20 → w.cell? ⟨g, 21, none⟩ = some c21 → w.cell? ⟨g, 22, none⟩ = some c22 → w.cell? ⟨g, 23, none⟩ = some c23 → w.cell? ⟨g, 24, none⟩ = some c24 → w.frozen? ⟨g, 0, none⟩ = false → w.frozen? ⟨g, 1, none⟩ = false → w.frozen? ⟨g, 2, none⟩ = false → w.frozen? ⟨g, 3, none⟩ = false → w.frozen? ⟨g, 4, none⟩ = false → w.frozen? ⟨g, 5, none⟩ = false → w.frozen? ⟨g, 6, none⟩ = false → w.frozen? ⟨g, 7, none⟩ = false → w.frozen? ⟨g, 8, none⟩ = false → w.frozen? ⟨g, 9, none⟩ = false → w.frozen? ⟨g, 10, none⟩ = false → w.frozen? ⟨g, 11, none⟩ = false → w.frozen? ⟨g, 12, none⟩ = false → w.frozen? ⟨g, 13, none⟩ = false → w.frozen? ⟨g, 14, none⟩ = false → w.frozen? ⟨g, 15, none⟩ = false → w.frozen? ⟨g, 16, none⟩ = false → w.frozen? ⟨g, 17, none⟩ = false → w.frozen? ⟨g, 18, none⟩ = false → w.frozen? ⟨g, 19, none⟩ = false → w.frozen? ⟨g, 20, none⟩ = false → w.frozen? ⟨g, 21, none⟩ = false → w.frozen? ⟨g, 22, none⟩ = false → w.frozen? ⟨g, 23, none⟩ = false → w.frozen? ⟨g, 24, none⟩ = false → C) : C :=
  k ((blk_cell h 0).trans rfl) ((blk_cell h 1).trans rfl) ((blk_cell h 2).trans rfl) ((blk_cell h 3).trans rfl) ((blk_cell h 4).trans rfl) ((blk_cell h 5).trans rfl) ((blk_cell h 6).trans rfl) ((blk_cell h 7).trans rfl) ((blk_cell h 8).trans rfl) ((blk_cell h 9).trans rfl) ((blk_cell h 10).trans rfl) ((blk_cell h 11).trans rfl) ((blk_cell h 12).trans rfl) ((blk_cell h 13).trans rfl) ((blk_cell h 14).trans rfl) ((blk_cell h 15).trans rfl) ((blk_cell h 16).trans rfl) ((blk_cell h 17).trans rfl) ((blk_cell h 18).trans rfl) ((blk_cell h 19).trans rfl) ((blk_cell h 20).trans rfl) ((blk_cell h 21).trans rfl) ((blk_cell h 22).trans rfl) ((blk_cell h 23).trans rfl) ((blk_cell h 24).trans rfl) (blk_frozen h 0) (blk_frozen h 1) (blk_frozen h 2) (blk_frozen h 3) (blk_frozen h 4) (blk_frozen h 5) (blk_frozen h 6) (blk_frozen h 7) (blk_frozen h 8) (blk_frozen h 9) (blk_frozen h 10) (blk_frozen h 11) (blk_frozen h 12) (blk_frozen h 13) (blk_frozen h 14) (blk_frozen h 15) (blk_frozen h 16) (blk_frozen h 17) (blk_frozen h 18) (blk_frozen h 19) (blk_frozen h 20) (blk_frozen h 21) (blk_frozen h 22) (blk_frozen h 23) (blk_frozen h 24)
theorem kb_ {w W : World} {g : Nat} {o : Obj} (h : W.heap[g]? = some o) (f : W.heap[g]? = some o → w.heap[g]? = some o := by intro h_; (with_reducible repeat (first | refine blk_alloc ?_ _ | refine blk_drewN ?_ _ | refine blk_drew ?_)); exact h_) : w.heap[g]? = some o := f h
theorem kr_ {α : Type} {d : Kd α} {e base : Nat} {w W : World} {ok : Nat → Prop} {v : Value} {xs : List α} (h : Kd.R d e W base ok v xs) (f : Kd.R d e W base ok v xs → Kd.R d e w base ok v xs := by intro h_; (with_reducible repeat (first | apply Kd.R_alloc | apply Kd.R_drewN | apply Kd.R_drew)); exact h_) : Kd.R d e w base ok v xs := f h
theorem ks_ {α : Type} {d : Kd α} {e base : Nat} {w W : World} {ok : Nat → Prop} {v : Value} {xs : List α} (h : Kd.S d e W base ok v xs) (f : Kd.S d e W base ok v xs → Kd.S d e w base ok v xs := by intro h_; (with_reducible repeat (first | apply Kd.S_alloc | apply Kd.S_drewN | apply Kd.S_drew)); exact h_) : Kd.S d e w base ok v xs := f h
theorem kv_ {α : Type} {d : Kd α} {e base : Nat} {w W : World} {ok : Nat → Prop} {v : Value} {xs : List α} (h : Kd.V d e W base ok v xs) (f : Kd.V d e W base ok v xs → Kd.V d e w base ok v xs := by intro h_; (with_reducible repeat (first | apply Kd.V_alloc | apply Kd.V_drewN | apply Kd.V_drew)); exact h_) : Kd.V d e w base ok v xs := f h
theorem kn_ {α : Type} {d : Kd α} {e base : Nat} {w W : World} {ok : Nat → Prop} {v : Value} {xs : List α} (h : Kd.N d e W base ok v xs) (f : Kd.N d e W base ok v xs → Kd.N d e w base ok v xs := by intro h_; (with_reducible repeat (first | apply Kd.N_alloc | apply Kd.N_drewN | apply Kd.N_drew)); exact h_) : Kd.N d e w base ok v xs := f h
theorem kc_ {α : Type} {d : Kd α} {w W : World} {A : Option Addr} {n : Nat} {xs : List α} (h : Kd.C d W A n xs) (f : Kd.C d W A n xs → Kd.C d w A n xs := by intro h_; repeat (first | exact h_ | (with_reducible refine Kd.C_alloc ?_ _) | (with_reducible refine Kd.C_drewN ?_ _) | (with_reducible refine Kd.C_drew ?_))) : Kd.C d w A n xs := f h
theorem lb_ {B : Nat} {w W : World} (h : Below B w W := by repeat (first | (with_reducible first | exact HB.out | apply below_alloc | apply pw_below_drewN | apply below_drew1) | exact HB.out)) : Below B w W := h
theorem bs_ {α β : Type} {x : Option α} {f : α → Option β} {r : β} (h : x.bind f = some r) : ∃ a, Aside0 (x = some a) ∧ f a = some r := by
  obtain ⟨a, h1, h2⟩ := Option.bind_eq_some_iff.mp h
  exact ⟨a, ⟨h1⟩, h2⟩
end Go.Proofs.Ytklbmdakoeoplaa.X
end
section
namespace Go.Proofs.Ytklbmdakoeoplaa.X
open Go.RowKit Go.Proofs.YtklbmdakoeoplaaW.PrintWords Go.Proofs.YtklbmdakoeoplaaW.PrintLast Go.Proofs.YtklbmdakoeoplaaW.PrintMore
attribute [local go_sem] max2_int min2_int max_two min_two max_three min_three max_four min_four   -- for this text's walks alone
set_option linter.unusedVariables false
set_option linter.unusedSimpArgs false
/-! ### althinglaw05_Few: function 11 -/
mutual
def althinglaw05_Few.l0 : Nat → List (S32) → Int → Int → Option (Bool)
 | 0, _, _, _ => none
 | k + 1, x7, x8, x9 => if x9 < x8 then (if 0 ≤ x9 then (if x9 < (x7.length : Int) then (althinglaw05_Few.l1 k 0 x7 x8 x9 ((rd_T32 x7 x9).f0) ((rd_T32 x7 x9).f1.f0) ((rd_T32 x7 x9).f1.f1) ((rd_T32 x7 x9).f2.f0) ((rd_T32 x7 x9).f2.f1) ((rd_T32 x7 x9).f3) ((rd_T32 x7 x9).f4) ((rd_T32 x7 x9).f5) ((rd_T32 x7 x9).f6)) else (none)) else (none)) else (some true)
def althinglaw05_Few.l1 : Nat → Int → List (S32) → Int → Int → Int → Int → Int → Int → Int → Int → List (S61) → List (S46) → Bool → Option (Bool)
 | 0, _, _, _, _, _, _, _, _, _, _, _, _, _ => none
 | k + 1, x5, x7, x8, x9, x103000, x103001, x103002, x103003, x103004, x103005, x103006, x103007, x103008 => if x5 < (x103006.length : Int) then (althinglaw05_Few.j2 k x5 x7 x8 x9 (decide (x5 ≤ 20)) x103000 x103001 x103002 x103003 x103004 x103005 x103006 x103007 x103008) else (althinglaw05_Few.j2 k x5 x7 x8 x9 false x103000 x103001 x103002 x103003 x103004 x103005 x103006 x103007 x103008)
def althinglaw05_Few.j2 : Nat → Int → List (S32) → Int → Int → Bool → Int → Int → Int → Int → Int → Int → List (S61) → List (S46) → Bool → Option (Bool)
 | 0, _, _, _, _, _, _, _, _, _, _, _, _, _, _ => none
 | k + 1, x5, x7, x8, x9, x21, x103000, x103001, x103002, x103003, x103004, x103005, x103006, x103007, x103008 => if x21 = true then (if 0 ≤ x5 then (if x5 < (x103006.length : Int) then (if (((rd_T61 x103006 x5).f0).size : Int) > 100 then (some false) else (althinglaw05_Few.l1 k (wrap64 (x5 + 1)) x7 x8 x9 x103000 x103001 x103002 x103003 x103004 x103005 x103006 x103007 x103008)) else (none)) else (none)) else (althinglaw05_Few.l2 k 0 x7 x8 x9 x103000 x103001 x103002 x103003 x103004 x103005 x103006 x103007 x103008)
def althinglaw05_Few.l2 : Nat → Int → List (S32) → Int → Int → Int → Int → Int → Int → Int → Int → List (S61) → List (S46) → Bool → Option (Bool)
 | 0, _, _, _, _, _, _, _, _, _, _, _, _, _ => none
 | k + 1, x6, x7, x8, x9, x103000, x103001, x103002, x103003, x103004, x103005, x103006, x103007, x103008 => if x6 < (x103007.length : Int) then (althinglaw05_Few.j4 k x6 x7 x8 x9 (decide (x6 ≤ 20)) x103000 x103001 x103002 x103003 x103004 x103005 x103006 x103007 x103008) else (althinglaw05_Few.j4 k x6 x7 x8 x9 false x103000 x103001 x103002 x103003 x103004 x103005 x103006 x103007 x103008)
def althinglaw05_Few.j4 : Nat → Int → List (S32) → Int → Int → Bool → Int → Int → Int → Int → Int → Int → List (S61) → List (S46) → Bool → Option (Bool)
 | 0, _, _, _, _, _, _, _, _, _, _, _, _, _, _ => none
 | k + 1, x6, x7, x8, x9, x40, x103000, x103001, x103002, x103003, x103004, x103005, x103006, x103007, x103008 => if x40 = true then (if 0 ≤ x6 then (if x6 < (x103007.length : Int) then (if (((rd_T46 x103007 x6).f0).size : Int) > 100 then (some false) else (if (((rd_T46 x103007 x6).f1).size : Int) > 100 then (some false) else (althinglaw05_Few.l2 k (wrap64 (x6 + 1)) x7 x8 x9 x103000 x103001 x103002 x103003 x103004 x103005 x103006 x103007 x103008))) else (none)) else (none)) else (if (x103006.length : Int) > 20 then (some false) else (if (x103007.length : Int) > 20 then (some false) else (althinglaw05_Few.l0 k x7 x8 (wrap64 (x9 + 1)))))
end
def althinglaw05_Few.f (k : Nat) (l0 : List (S32)) : Option (Bool) := althinglaw05_Few.l0 k l0 (l0.length : Int) 0
set_option maxHeartbeats 8000000 in
set_option maxRecDepth 100000 in
theorem althinglaw05_Few.calls (k : Nat) (A0 : Option Addr) (c0 : Nat) (l0 : List (S32)) (r : Bool) (w : World) (hr0 : Kd.C k32 w A0 l0.length l0) (hc0 : l0.length ≤ c0) (h : althinglaw05_Few.f k l0 = some r) :
 Calls Try.prog 11 #[.slice A0 l0.length c0] w fun e w' => e = .returned (.bool r) ∧ Below w.heap.size w w' := by
 have hu32 := Try.underlying32
 have HR0 := Aside0.mk hr0
 have HC0 := Aside0.mk hc0
 clear hr0 hc0
 have HB := Aside0.mk (Below.refl w.heap.size w)
 have H : (althinglaw05_Few.l0 k l0 (l0.length : Int) 0) = some r := h
 clear h
 have H' := Aside0.mk H
 clear H
 go_enter Try.func11, Try.ntmps11
 go_wp2
 go_loopg [9] k (fun kq v9 w' => ∃ (x9_1 : Int), v9 = .int .i64 x9_1 ∧ Aside0 (althinglaw05_Few.l0 kq l0 (l0.length : Int) x9_1 = some r) ∧ Aside0 (kq ≤ k) ∧ Aside0 (Below w.heap.size w w'))
 case atStart => exact ⟨(0), (by first | rfl | (simp; done) | (simp [*]; done)), H', ⟨Nat.le_refl _⟩, ⟨by repeat (first | (with_reducible first | exact HB.out | apply below_alloc | apply pw_below_drewN | apply below_drew1) | exact HB.out)⟩⟩
 case round =>
  clear H'
  try clear c1
  obtain ⟨x9_1, rfl, HA, HK1, HB⟩ := hrel
  cases gk with
  | zero => exact absurd HA.out (by simp [althinglaw05_Few.l0])
  | succ k1 =>
   have H := HA.out
   clear HA
   simp only [althinglaw05_Few.l0] at H
   by_cases c2 : x9_1 < (l0.length : Int)
   · rw [if_pos c2] at H
     have c2b0 : decide (x9_1 < (l0.length : Int)) = true := decide_eq_true c2
     clear c2
     by_cases c3 : 0 ≤ x9_1
     · rw [if_pos c3] at H
       have c3b0 : decide (0 ≤ x9_1) = true := decide_eq_true c3
       clear c3
       by_cases c4 : x9_1 < (l0.length : Int)
       · rw [if_pos c4] at H
         have c4b0 : decide (x9_1 < (l0.length : Int)) = true := decide_eq_true c4
         clear c4
         have H' := Aside0.mk H
         clear H
         have p101 : 0 ≤ (x9_1 : Int) := of_decide_eq_true (by first | (with_reducible assumption) | assumption)
         have q101 : x9_1 < (l0.length : Int) := of_decide_eq_true (by first | (with_reducible assumption) | assumption)
         obtain ⟨ad101, A101_6, c101_6, A101_7, c101_7, e101, hx101_0, hx101_1, hx101_2, hx101_3, hx101_4, hx101_5, hx101_6, hx101_7, hx101_8, hl101_6, hi101_6, hl101_7, hi101_7⟩ := at_T32 HR0.out x9_1 p101 q101
         cases e101
         replace hx101_0 := (HB.out.cell (World.block_lt_of_cell? w _ hx101_0)).trans hx101_0
         replace hx101_1 := (HB.out.cell (World.block_lt_of_cell? w _ hx101_1)).trans hx101_1
         replace hx101_2 := (HB.out.cell (World.block_lt_of_cell? w _ hx101_2)).trans hx101_2
         replace hx101_3 := (HB.out.cell (World.block_lt_of_cell? w _ hx101_3)).trans hx101_3
         replace hx101_4 := (HB.out.cell (World.block_lt_of_cell? w _ hx101_4)).trans hx101_4
         replace hx101_5 := (HB.out.cell (World.block_lt_of_cell? w _ hx101_5)).trans hx101_5
         replace hx101_6 := (HB.out.cell (World.block_lt_of_cell? w _ hx101_6)).trans hx101_6
         replace hx101_7 := (HB.out.cell (World.block_lt_of_cell? w _ hx101_7)).trans hx101_7
         replace hx101_8 := (HB.out.cell (World.block_lt_of_cell? w _ hx101_8)).trans hx101_8
         have HR101_6 := Aside0.mk hi101_6
         have HC101_6 := Aside0.mk hl101_6
         clear hi101_6 hl101_6
         have HR101_7 := Aside0.mk hi101_7
         have HC101_7 := Aside0.mk hl101_7
         clear hi101_7 hl101_7
         replace p101 := eq_true p101
         replace q101 := eq_true q101
         go_wp2_with (first | ((with_reducible refine gate_dst (N := 12) rfl ?_); refine cells_load_event ?lg (N := 12) ?ld (t := 32) (x := ?lxxz5) ?lo (p := ?lppz5) ?lx (v := .int .i64 ((rd_T32 l0 x9_1).f0)) (cs := [.int .i64 ((rd_T32 l0 x9_1).f1.f0), .int .i64 ((rd_T32 l0 x9_1).f1.f1), .int .i64 ((rd_T32 l0 x9_1).f2.f0), .int .i64 ((rd_T32 l0 x9_1).f2.f1), .int .i64 ((rd_T32 l0 x9_1).f3), .slice A101_6 ((rd_T32 l0 x9_1).f4).length c101_6, .slice A101_7 ((rd_T32 l0 x9_1).f5).length c101_7, .bool ((rd_T32 l0 x9_1).f6)]) ?lD ?lt ?l0 ?lc ?_; (case lg => rfl); (case ld => rfl); (case lo => rfl); (case lx => first | rfl | (go_simp; done) | (go_simp; rfl)); (case lD => exact ⟨_, Try.underlying32, rfl⟩); (case lt => kernel_rfl); (case l0 => exact hx101_0); (case lc => exact ⟨hx101_1, hx101_2, hx101_3, hx101_4, hx101_5, hx101_6, hx101_7, hx101_8, trivial⟩)) | ((with_reducible refine gate_dst (N := 4) rfl ?_); (try (refine gate_guard (by rfl) ?_; dsimp only)); refine alloc_store_event ?hg1 (N := 4) ?hd1 ?hg2 ?hd2 ?ho2 (cs0 := #[.int .i64 0, .int .i64 0, .int .i64 0, .int .i64 0, .int .i64 0, .int .i64 0, .slice none 0 0, .slice none 0 0, .bool false]) (cs := #[.int .i64 ((rd_T32 l0 x9_1).f0), .int .i64 ((rd_T32 l0 x9_1).f1.f0), .int .i64 ((rd_T32 l0 x9_1).f1.f1), .int .i64 ((rd_T32 l0 x9_1).f2.f0), .int .i64 ((rd_T32 l0 x9_1).f2.f1), .int .i64 ((rd_T32 l0 x9_1).f3), .slice A101_6 ((rd_T32 l0 x9_1).f4).length c101_6, .slice A101_7 ((rd_T32 l0 x9_1).f5).length c101_7, .bool ((rd_T32 l0 x9_1).f6)]) (t := 32) (x := ?xxw6) ?hr ?hp ?hx ?hs ?h1 ?ht ?_; (case hg1 => rfl); (case hd1 => rfl); (case hg2 => rfl); (case hd2 => rfl); (case ho2 => rfl); (case hr => first | (go_simp; done) | (go_simp; rfl)); (case hp => rfl); (case hx => rfl); (case hs => rfl); (case h1 => rfl); (case ht => kernel_rfl); intro gb102 hg w6 hbox hb; have n0_ := Aside0.mk (below_step lb_ hb); have n1_ := Aside0.mk (hbox); have n2_ := Aside0.mk ((by rw [hg]; exact (below_size lb_) : w.heap.size ≤ gb102)); have n3_ := Aside0.mk ((by rw [hg]; exact (below_size lb_) : w.heap.size ≤ gb102)); clear HB; have HB := n0_; have BK102 := n1_; have GW102 := n2_; have GE102 := n3_; clear n0_ n1_ n2_ n3_; clear hb hbox hg))
         go_loopg [5] k1 (fun kq v5 w' => ∃ (x5_2 : Int), v5 = .int .i64 x5_2 ∧ Aside0 (althinglaw05_Few.l1 kq x5_2 l0 (l0.length : Int) x9_1 ((rd_T32 l0 x9_1).f0) ((rd_T32 l0 x9_1).f1.f0) ((rd_T32 l0 x9_1).f1.f1) ((rd_T32 l0 x9_1).f2.f0) ((rd_T32 l0 x9_1).f2.f1) ((rd_T32 l0 x9_1).f3) ((rd_T32 l0 x9_1).f4) ((rd_T32 l0 x9_1).f5) ((rd_T32 l0 x9_1).f6) = some r) ∧ Aside0 (kq ≤ k1) ∧ Aside0 (w'.heap[gb102]? = some (.cells #[.int .i64 ((rd_T32 l0 x9_1).f0), .int .i64 ((rd_T32 l0 x9_1).f1.f0), .int .i64 ((rd_T32 l0 x9_1).f1.f1), .int .i64 ((rd_T32 l0 x9_1).f2.f0), .int .i64 ((rd_T32 l0 x9_1).f2.f1), .int .i64 ((rd_T32 l0 x9_1).f3), (.slice A101_6 ((rd_T32 l0 x9_1).f4).length c101_6), (.slice A101_7 ((rd_T32 l0 x9_1).f5).length c101_7), .bool ((rd_T32 l0 x9_1).f6)] 32 (0, 0))) ∧ Aside0 (Below w.heap.size w w'))
         case atStart => exact ⟨(0), (by first | rfl | (simp; done) | (simp [*]; done)), H', ⟨Nat.le_refl _⟩, ⟨by (with_reducible repeat (first | refine blk_drewN ?_ _ | refine blk_drew ?_ | refine blk_alloc ?_ _)); exact BK102.out⟩, ⟨by repeat (first | (with_reducible first | exact HB.out | apply below_alloc | apply pw_below_drewN | apply below_drew1 | refine below_set ?_ GE102.out) | exact HB.out)⟩⟩
         case round =>
          clear H'
          try clear c1
          try clear p1
          try clear q1
          try clear hx1
          try clear c2
          try clear c2b0
          try clear p2
          try clear c3
          try clear c3b0
          try clear c4
          try clear c4b0
          try clear hx101_0
          try clear hx101_1
          try clear hx101_2
          try clear hx101_3
          try clear hx101_4
          try clear hx101_5
          try clear hx101_6
          try clear hx101_7
          try clear hx101_8
          try clear p101
          try clear q101
          (try clear BK102)
          obtain ⟨x5_2, rfl, HA, HK2, BK102, HB⟩ := hrel
          cases gk with
          | zero => exact absurd HA.out (by simp [althinglaw05_Few.l1])
          | succ k2 =>
           have H := HA.out
           clear HA
           simp only [althinglaw05_Few.l1] at H
           have HC7 := Aside0.mk H
           clear H
           go_upto_region 5 with (fail)
           go_cut [21] (fun v21 wc => ∃ (kq : Nat) (x21_6 : Bool), v21 = .bool x21_6 ∧ Aside0 (althinglaw05_Few.j2 kq x5_2 l0 (l0.length : Int) x9_1 x21_6 ((rd_T32 l0 x9_1).f0) ((rd_T32 l0 x9_1).f1.f0) ((rd_T32 l0 x9_1).f1.f1) ((rd_T32 l0 x9_1).f2.f0) ((rd_T32 l0 x9_1).f2.f1) ((rd_T32 l0 x9_1).f3) ((rd_T32 l0 x9_1).f4) ((rd_T32 l0 x9_1).f5) ((rd_T32 l0 x9_1).f6) = some r) ∧ Aside0 (kq ≤ k2) ∧ Aside0 (wc.heap[gb102]? = some (.cells #[.int .i64 ((rd_T32 l0 x9_1).f0), .int .i64 ((rd_T32 l0 x9_1).f1.f0), .int .i64 ((rd_T32 l0 x9_1).f1.f1), .int .i64 ((rd_T32 l0 x9_1).f2.f0), .int .i64 ((rd_T32 l0 x9_1).f2.f1), .int .i64 ((rd_T32 l0 x9_1).f3), (.slice A101_6 ((rd_T32 l0 x9_1).f4).length c101_6), (.slice A101_7 ((rd_T32 l0 x9_1).f5).length c101_7), .bool ((rd_T32 l0 x9_1).f6)] 32 (0, 0))) ∧ Aside0 (Below w.heap.size w wc))
           case first =>
            have H := HC7.out
            clear HC7
            by_cases c8 : x5_2 < (((rd_T32 l0 x9_1).f4).length : Int)
            · rw [if_pos c8] at H
              have c8b0 : decide (x5_2 < (((rd_T32 l0 x9_1).f4).length : Int)) = true := decide_eq_true c8
              clear c8
              (first | rw [c8b0] | (simp only [i64_w, i32_w]; rw [c8b0]) | skip)
              have H' := Aside0.mk H
              clear H
              refine blk9_ BK102.out fun hcz9_0 hcz9_1 hcz9_2 hcz9_3 hcz9_4 hcz9_5 hcz9_6 hcz9_7 hcz9_8 hfz9_0 hfz9_1 hfz9_2 hfz9_3 hfz9_4 hfz9_5 hfz9_6 hfz9_7 hfz9_8 => ?_
              go_wp2
              go_meet
              case rel => exact ⟨_, (decide (x5_2 ≤ 20)), (by first | rfl | (simp; done) | (simp [*]; done)), H', ⟨by have := HK1.out; have := HK2.out; first | omega | exact Nat.le_refl _⟩, ⟨by (with_reducible repeat (first | refine blk_drewN ?_ _ | refine blk_drew ?_ | refine blk_alloc ?_ _)); exact BK102.out⟩, ⟨by repeat (first | (with_reducible first | exact HB.out | apply below_alloc | apply pw_below_drewN | apply below_drew1 | refine below_set ?_ GE102.out) | exact HB.out)⟩⟩
            · rw [if_neg c8] at H
              have c8b0 : decide (x5_2 < (((rd_T32 l0 x9_1).f4).length : Int)) = false := decide_eq_false c8
              clear c8
              (first | rw [c8b0] | (simp only [i64_w, i32_w]; rw [c8b0]) | skip)
              have H' := Aside0.mk H
              clear H
              refine blk9_ BK102.out fun hcz10_0 hcz10_1 hcz10_2 hcz10_3 hcz10_4 hcz10_5 hcz10_6 hcz10_7 hcz10_8 hfz10_0 hfz10_1 hfz10_2 hfz10_3 hfz10_4 hfz10_5 hfz10_6 hfz10_7 hfz10_8 => ?_
              go_wp2
              go_meet
              case rel => exact ⟨_, (false), (by first | rfl | (simp; done) | (simp [*]; done)), H', ⟨by have := HK1.out; have := HK2.out; first | omega | exact Nat.le_refl _⟩, ⟨by (with_reducible repeat (first | refine blk_drewN ?_ _ | refine blk_drew ?_ | refine blk_alloc ?_ _)); exact BK102.out⟩, ⟨by repeat (first | (with_reducible first | exact HB.out | apply below_alloc | apply pw_below_drewN | apply below_drew1 | refine below_set ?_ GE102.out) | exact HB.out)⟩⟩
           case rest =>
            clear HC7
            try clear c1
            try clear p1
            try clear q1
            try clear hx1
            try clear c2
            try clear c2b0
            try clear p2
            try clear c3
            try clear c3b0
            try clear c4
            try clear c4b0
            try clear c8
            try clear c8b0
            try clear c10
            try clear p10
            try clear q10
            try clear hx10
            try clear hcz10_0 hcz10_1 hcz10_2 hcz10_3 hcz10_4 hcz10_5 hcz10_6 hcz10_7 hcz10_8
            try clear hcz9_0 hcz9_1 hcz9_2 hcz9_3 hcz9_4 hcz9_5 hcz9_6 hcz9_7 hcz9_8
            try clear hfz10_0 hfz10_1 hfz10_2 hfz10_3 hfz10_4 hfz10_5 hfz10_6 hfz10_7 hfz10_8
            try clear hfz9_0 hfz9_1 hfz9_2 hfz9_3 hfz9_4 hfz9_5 hfz9_6 hfz9_7 hfz9_8
            try clear hx101_0
            try clear hx101_1
            try clear hx101_2
            try clear hx101_3
            try clear hx101_4
            try clear hx101_5
            try clear hx101_6
            try clear hx101_7
            try clear hx101_8
            try clear p1
            try clear p101
            try clear p2
            try clear q1
            try clear q101
            obtain ⟨kq, x21_6, rfl, HA, HJ6, BK102, HB⟩ := hcut
            cases kq with
            | zero => exact absurd HA.out (by simp [althinglaw05_Few.j2])
            | succ kj6 =>
             have H := HA.out
             clear HA
             simp only [althinglaw05_Few.j2] at H
             by_cases c11 : x21_6 = true
             · subst c11
               rw [if_pos rfl] at H
               by_cases c12 : 0 ≤ x5_2
               · rw [if_pos c12] at H
                 have c12b0 : decide (0 ≤ x5_2) = true := decide_eq_true c12
                 clear c12
                 by_cases c13 : x5_2 < (((rd_T32 l0 x9_1).f4).length : Int)
                 · rw [if_pos c13] at H
                   have c13b0 : decide (x5_2 < (((rd_T32 l0 x9_1).f4).length : Int)) = true := decide_eq_true c13
                   clear c13
                   by_cases c14 : (((rd_T61 ((rd_T32 l0 x9_1).f4) x5_2).f0).size : Int) > 100
                   · rw [if_pos c14] at H
                     have c14b0 : decide (100 < (((rd_T61 ((rd_T32 l0 x9_1).f4) x5_2).f0).size : Int)) = true := decide_eq_true c14
                     have c14b1 : decide (100 < ((rd_T61 ((rd_T32 l0 x9_1).f4) x5_2).f0).size) = true := decide_eq_true (by omega)
                     clear c14
                     obtain rfl := Option.some.inj H
                     refine blk9_ BK102.out fun hcz15_0 hcz15_1 hcz15_2 hcz15_3 hcz15_4 hcz15_5 hcz15_6 hcz15_7 hcz15_8 hfz15_0 hfz15_1 hfz15_2 hfz15_3 hfz15_4 hfz15_5 hfz15_6 hfz15_7 hfz15_8 => ?_
                     have p103 : 0 ≤ (x5_2 : Int) := of_decide_eq_true (by first | (with_reducible assumption) | assumption)
                     have q103 : x5_2 < (((rd_T32 l0 x9_1).f4).length : Int) := of_decide_eq_true (by first | (with_reducible assumption) | assumption)
                     obtain ⟨ad103, e103, hx103_0, hx103_1, hx103_2⟩ := at_T61 HR101_6.out x5_2 p103 q103
                     cases e103
                     replace hx103_0 := (HB.out.cell (World.block_lt_of_cell? w _ hx103_0)).trans hx103_0
                     replace hx103_1 := (HB.out.cell (World.block_lt_of_cell? w _ hx103_1)).trans hx103_1
                     replace hx103_2 := (HB.out.cell (World.block_lt_of_cell? w _ hx103_2)).trans hx103_2
                     replace p103 := eq_true p103
                     replace q103 := eq_true q103
                     go_wp2
                     go_ret
                     exact ⟨by first | rfl | (simp [errW_none, errW_some] <;> rfl) | (simp [*, errW_none, errW_some] <;> rfl), by repeat (first | (with_reducible first | exact HB.out | apply below_alloc | apply pw_below_drewN | apply below_drew1 | refine below_set ?_ GE102.out) | exact HB.out)⟩
                   · rw [if_neg c14] at H
                     have c14b0 : decide (100 < (((rd_T61 ((rd_T32 l0 x9_1).f4) x5_2).f0).size : Int)) = false := decide_eq_false c14
                     have c14b1 : decide (100 < ((rd_T61 ((rd_T32 l0 x9_1).f4) x5_2).f0).size) = false := decide_eq_false (by omega)
                     clear c14
                     have H' := Aside0.mk H
                     clear H
                     refine blk9_ BK102.out fun hcz16_0 hcz16_1 hcz16_2 hcz16_3 hcz16_4 hcz16_5 hcz16_6 hcz16_7 hcz16_8 hfz16_0 hfz16_1 hfz16_2 hfz16_3 hfz16_4 hfz16_5 hfz16_6 hfz16_7 hfz16_8 => ?_
                     have p103 : 0 ≤ (x5_2 : Int) := of_decide_eq_true (by first | (with_reducible assumption) | assumption)
                     have q103 : x5_2 < (((rd_T32 l0 x9_1).f4).length : Int) := of_decide_eq_true (by first | (with_reducible assumption) | assumption)
                     obtain ⟨ad103, e103, hx103_0, hx103_1, hx103_2⟩ := at_T61 HR101_6.out x5_2 p103 q103
                     cases e103
                     replace hx103_0 := (HB.out.cell (World.block_lt_of_cell? w _ hx103_0)).trans hx103_0
                     replace hx103_1 := (HB.out.cell (World.block_lt_of_cell? w _ hx103_1)).trans hx103_1
                     replace hx103_2 := (HB.out.cell (World.block_lt_of_cell? w _ hx103_2)).trans hx103_2
                     replace p103 := eq_true p103
                     replace q103 := eq_true q103
                     go_wp2
                     go_roundg kj6
                     case measure => have := HK1.out; have := HK2.out; have := HJ6.out; omega
                     case rel => exact ⟨(wrap64 (x5_2 + 1)), (by first | rfl | (simp; done) | (simp [*]; done)), H', ⟨by have := HK1.out; have := HK2.out; have := HJ6.out; omega⟩, ⟨by (with_reducible repeat (first | refine blk_drewN ?_ _ | refine blk_drew ?_ | refine blk_alloc ?_ _)); exact BK102.out⟩, ⟨by repeat (first | (with_reducible first | exact HB.out | apply below_alloc | apply pw_below_drewN | apply below_drew1 | refine below_set ?_ GE102.out) | exact HB.out)⟩⟩
                 · rw [if_neg c13] at H
                   exact absurd H (by simp)
               · rw [if_neg c12] at H
                 exact absurd H (by simp)
             · replace c11 := Bool.eq_false_iff.mpr c11
               subst c11
               rw [if_neg (show ¬ (false = true) by decide)] at H
               have H' := Aside0.mk H
               clear H
               go_wp2
               go_loopg [6] kj6 (fun kq v6 w' => ∃ (x6_4 : Int), v6 = .int .i64 x6_4 ∧ Aside0 (althinglaw05_Few.l2 kq x6_4 l0 (l0.length : Int) x9_1 ((rd_T32 l0 x9_1).f0) ((rd_T32 l0 x9_1).f1.f0) ((rd_T32 l0 x9_1).f1.f1) ((rd_T32 l0 x9_1).f2.f0) ((rd_T32 l0 x9_1).f2.f1) ((rd_T32 l0 x9_1).f3) ((rd_T32 l0 x9_1).f4) ((rd_T32 l0 x9_1).f5) ((rd_T32 l0 x9_1).f6) = some r) ∧ Aside0 (kq ≤ kj6) ∧ Aside0 (w'.heap[gb102]? = some (.cells #[.int .i64 ((rd_T32 l0 x9_1).f0), .int .i64 ((rd_T32 l0 x9_1).f1.f0), .int .i64 ((rd_T32 l0 x9_1).f1.f1), .int .i64 ((rd_T32 l0 x9_1).f2.f0), .int .i64 ((rd_T32 l0 x9_1).f2.f1), .int .i64 ((rd_T32 l0 x9_1).f3), (.slice A101_6 ((rd_T32 l0 x9_1).f4).length c101_6), (.slice A101_7 ((rd_T32 l0 x9_1).f5).length c101_7), .bool ((rd_T32 l0 x9_1).f6)] 32 (0, 0))) ∧ Aside0 (Below w.heap.size w w'))
               case atStart => exact ⟨(0), (by first | rfl | (simp; done) | (simp [*]; done)), H', ⟨Nat.le_refl _⟩, ⟨by (with_reducible repeat (first | refine blk_drewN ?_ _ | refine blk_drew ?_ | refine blk_alloc ?_ _)); exact BK102.out⟩, ⟨by repeat (first | (with_reducible first | exact HB.out | apply below_alloc | apply pw_below_drewN | apply below_drew1 | refine below_set ?_ GE102.out) | exact HB.out)⟩⟩
               case round =>
                clear H'
                try clear c1
                try clear p1
                try clear q1
                try clear hx1
                try clear c2
                try clear c2b0
                try clear p2
                try clear c3
                try clear c3b0
                try clear c4
                try clear c4b0
                try clear p6
                try clear c8
                try clear c8b0
                try clear c10
                try clear p10
                try clear q10
                try clear hx10
                try clear c11
                try clear c12
                try clear c12b0
                try clear c13
                try clear c13b0
                try clear c14
                try clear c14b0
                try clear c14b1
                try clear hcz10_0 hcz10_1 hcz10_2 hcz10_3 hcz10_4 hcz10_5 hcz10_6 hcz10_7 hcz10_8
                try clear hcz15_0 hcz15_1 hcz15_2 hcz15_3 hcz15_4 hcz15_5 hcz15_6 hcz15_7 hcz15_8
                try clear hcz16_0 hcz16_1 hcz16_2 hcz16_3 hcz16_4 hcz16_5 hcz16_6 hcz16_7 hcz16_8
                try clear hcz9_0 hcz9_1 hcz9_2 hcz9_3 hcz9_4 hcz9_5 hcz9_6 hcz9_7 hcz9_8
                try clear hfz10_0 hfz10_1 hfz10_2 hfz10_3 hfz10_4 hfz10_5 hfz10_6 hfz10_7 hfz10_8
                try clear hfz15_0 hfz15_1 hfz15_2 hfz15_3 hfz15_4 hfz15_5 hfz15_6 hfz15_7 hfz15_8
                try clear hfz16_0 hfz16_1 hfz16_2 hfz16_3 hfz16_4 hfz16_5 hfz16_6 hfz16_7 hfz16_8
                try clear hfz9_0 hfz9_1 hfz9_2 hfz9_3 hfz9_4 hfz9_5 hfz9_6 hfz9_7 hfz9_8
                try clear hx101_0
                try clear hx101_1
                try clear hx101_2
                try clear hx101_3
                try clear hx101_4
                try clear hx101_5
                try clear hx101_6
                try clear hx101_7
                try clear hx101_8
                try clear hx103_0
                try clear hx103_1
                try clear hx103_2
                try clear p1
                try clear p10
                try clear p101
                try clear p103
                try clear p2
                try clear q1
                try clear q10
                try clear q101
                try clear q103
                (try clear BK102)
                obtain ⟨x6_4, rfl, HA, HK4, BK102, HB⟩ := hrel
                cases gk with
                | zero => exact absurd HA.out (by simp [althinglaw05_Few.l2])
                | succ k4 =>
                 have H := HA.out
                 clear HA
                 simp only [althinglaw05_Few.l2] at H
                 have HC17 := Aside0.mk H
                 clear H
                 go_upto_region 10 with (fail)
                 go_cut [40] (fun v40 wc => ∃ (kq : Nat) (x40_16 : Bool), v40 = .bool x40_16 ∧ Aside0 (althinglaw05_Few.j4 kq x6_4 l0 (l0.length : Int) x9_1 x40_16 ((rd_T32 l0 x9_1).f0) ((rd_T32 l0 x9_1).f1.f0) ((rd_T32 l0 x9_1).f1.f1) ((rd_T32 l0 x9_1).f2.f0) ((rd_T32 l0 x9_1).f2.f1) ((rd_T32 l0 x9_1).f3) ((rd_T32 l0 x9_1).f4) ((rd_T32 l0 x9_1).f5) ((rd_T32 l0 x9_1).f6) = some r) ∧ Aside0 (kq ≤ k4) ∧ Aside0 (wc.heap[gb102]? = some (.cells #[.int .i64 ((rd_T32 l0 x9_1).f0), .int .i64 ((rd_T32 l0 x9_1).f1.f0), .int .i64 ((rd_T32 l0 x9_1).f1.f1), .int .i64 ((rd_T32 l0 x9_1).f2.f0), .int .i64 ((rd_T32 l0 x9_1).f2.f1), .int .i64 ((rd_T32 l0 x9_1).f3), (.slice A101_6 ((rd_T32 l0 x9_1).f4).length c101_6), (.slice A101_7 ((rd_T32 l0 x9_1).f5).length c101_7), .bool ((rd_T32 l0 x9_1).f6)] 32 (0, 0))) ∧ Aside0 (Below w.heap.size w wc))
                 case first =>
                  have H := HC17.out
                  clear HC17
                  by_cases c18 : x6_4 < (((rd_T32 l0 x9_1).f5).length : Int)
                  · rw [if_pos c18] at H
                    have c18b0 : decide (x6_4 < (((rd_T32 l0 x9_1).f5).length : Int)) = true := decide_eq_true c18
                    clear c18
                    (first | rw [c18b0] | (simp only [i64_w, i32_w]; rw [c18b0]) | skip)
                    have H' := Aside0.mk H
                    clear H
                    refine blk9_ BK102.out fun hcz19_0 hcz19_1 hcz19_2 hcz19_3 hcz19_4 hcz19_5 hcz19_6 hcz19_7 hcz19_8 hfz19_0 hfz19_1 hfz19_2 hfz19_3 hfz19_4 hfz19_5 hfz19_6 hfz19_7 hfz19_8 => ?_
                    go_wp2
                    go_meet
                    case rel => exact ⟨_, (decide (x6_4 ≤ 20)), (by first | rfl | (simp; done) | (simp [*]; done)), H', ⟨by have := HK1.out; have := HK2.out; have := HJ6.out; have := HK4.out; first | omega | exact Nat.le_refl _⟩, ⟨by (with_reducible repeat (first | refine blk_drewN ?_ _ | refine blk_drew ?_ | refine blk_alloc ?_ _)); exact BK102.out⟩, ⟨by repeat (first | (with_reducible first | exact HB.out | apply below_alloc | apply pw_below_drewN | apply below_drew1 | refine below_set ?_ GE102.out) | exact HB.out)⟩⟩
                  · rw [if_neg c18] at H
                    have c18b0 : decide (x6_4 < (((rd_T32 l0 x9_1).f5).length : Int)) = false := decide_eq_false c18
                    clear c18
                    (first | rw [c18b0] | (simp only [i64_w, i32_w]; rw [c18b0]) | skip)
                    have H' := Aside0.mk H
                    clear H
                    refine blk9_ BK102.out fun hcz20_0 hcz20_1 hcz20_2 hcz20_3 hcz20_4 hcz20_5 hcz20_6 hcz20_7 hcz20_8 hfz20_0 hfz20_1 hfz20_2 hfz20_3 hfz20_4 hfz20_5 hfz20_6 hfz20_7 hfz20_8 => ?_
                    go_wp2
                    go_meet
                    case rel => exact ⟨_, (false), (by first | rfl | (simp; done) | (simp [*]; done)), H', ⟨by have := HK1.out; have := HK2.out; have := HJ6.out; have := HK4.out; first | omega | exact Nat.le_refl _⟩, ⟨by (with_reducible repeat (first | refine blk_drewN ?_ _ | refine blk_drew ?_ | refine blk_alloc ?_ _)); exact BK102.out⟩, ⟨by repeat (first | (with_reducible first | exact HB.out | apply below_alloc | apply pw_below_drewN | apply below_drew1 | refine below_set ?_ GE102.out) | exact HB.out)⟩⟩
                 case rest =>
                  clear HC17
                  try clear c1
                  try clear p1
                  try clear q1
                  try clear hx1
                  try clear c2
                  try clear c2b0
                  try clear p2
                  try clear c3
                  try clear c3b0
                  try clear c4
                  try clear c4b0
                  try clear p6
                  try clear c8
                  try clear c8b0
                  try clear c10
                  try clear p10
                  try clear q10
                  try clear hx10
                  try clear c11
                  try clear c12
                  try clear c12b0
                  try clear c13
                  try clear c13b0
                  try clear c14
                  try clear c14b0
                  try clear c14b1
                  try clear c18
                  try clear c18b0
                  try clear hcz10_0 hcz10_1 hcz10_2 hcz10_3 hcz10_4 hcz10_5 hcz10_6 hcz10_7 hcz10_8
                  try clear hcz15_0 hcz15_1 hcz15_2 hcz15_3 hcz15_4 hcz15_5 hcz15_6 hcz15_7 hcz15_8
                  try clear hcz16_0 hcz16_1 hcz16_2 hcz16_3 hcz16_4 hcz16_5 hcz16_6 hcz16_7 hcz16_8
                  try clear hcz19_0 hcz19_1 hcz19_2 hcz19_3 hcz19_4 hcz19_5 hcz19_6 hcz19_7 hcz19_8
                  try clear hcz20_0 hcz20_1 hcz20_2 hcz20_3 hcz20_4 hcz20_5 hcz20_6 hcz20_7 hcz20_8
                  try clear hcz9_0 hcz9_1 hcz9_2 hcz9_3 hcz9_4 hcz9_5 hcz9_6 hcz9_7 hcz9_8
                  try clear hfz10_0 hfz10_1 hfz10_2 hfz10_3 hfz10_4 hfz10_5 hfz10_6 hfz10_7 hfz10_8
                  try clear hfz15_0 hfz15_1 hfz15_2 hfz15_3 hfz15_4 hfz15_5 hfz15_6 hfz15_7 hfz15_8
                  try clear hfz16_0 hfz16_1 hfz16_2 hfz16_3 hfz16_4 hfz16_5 hfz16_6 hfz16_7 hfz16_8
                  try clear hfz19_0 hfz19_1 hfz19_2 hfz19_3 hfz19_4 hfz19_5 hfz19_6 hfz19_7 hfz19_8
                  try clear hfz20_0 hfz20_1 hfz20_2 hfz20_3 hfz20_4 hfz20_5 hfz20_6 hfz20_7 hfz20_8
                  try clear hfz9_0 hfz9_1 hfz9_2 hfz9_3 hfz9_4 hfz9_5 hfz9_6 hfz9_7 hfz9_8
                  try clear hx101_0
                  try clear hx101_1
                  try clear hx101_2
                  try clear hx101_3
                  try clear hx101_4
                  try clear hx101_5
                  try clear hx101_6
                  try clear hx101_7
                  try clear hx101_8
                  try clear hx103_0
                  try clear hx103_1
                  try clear hx103_2
                  try clear p1
                  try clear p10
                  try clear p101
                  try clear p103
                  try clear p2
                  try clear p6
                  try clear q1
                  try clear q10
                  try clear q101
                  try clear q103
                  obtain ⟨kq, x40_16, rfl, HA, HJ16, BK102, HB⟩ := hcut
                  cases kq with
                  | zero => exact absurd HA.out (by simp [althinglaw05_Few.j4])
                  | succ kj16 =>
                   have H := HA.out
                   clear HA
                   simp only [althinglaw05_Few.j4] at H
                   by_cases c21 : x40_16 = true
                   · subst c21
                     rw [if_pos rfl] at H
                     by_cases c22 : 0 ≤ x6_4
                     · rw [if_pos c22] at H
                       have c22b0 : decide (0 ≤ x6_4) = true := decide_eq_true c22
                       clear c22
                       by_cases c23 : x6_4 < (((rd_T32 l0 x9_1).f5).length : Int)
                       · rw [if_pos c23] at H
                         have c23b0 : decide (x6_4 < (((rd_T32 l0 x9_1).f5).length : Int)) = true := decide_eq_true c23
                         clear c23
                         by_cases c24 : (((rd_T46 ((rd_T32 l0 x9_1).f5) x6_4).f0).size : Int) > 100
                         · rw [if_pos c24] at H
                           have c24b0 : decide (100 < (((rd_T46 ((rd_T32 l0 x9_1).f5) x6_4).f0).size : Int)) = true := decide_eq_true c24
                           have c24b1 : decide (100 < ((rd_T46 ((rd_T32 l0 x9_1).f5) x6_4).f0).size) = true := decide_eq_true (by omega)
                           clear c24
                           obtain rfl := Option.some.inj H
                           refine blk9_ BK102.out fun hcz25_0 hcz25_1 hcz25_2 hcz25_3 hcz25_4 hcz25_5 hcz25_6 hcz25_7 hcz25_8 hfz25_0 hfz25_1 hfz25_2 hfz25_3 hfz25_4 hfz25_5 hfz25_6 hfz25_7 hfz25_8 => ?_
                           have p104 : 0 ≤ (x6_4 : Int) := of_decide_eq_true (by first | (with_reducible assumption) | assumption)
                           have q104 : x6_4 < (((rd_T32 l0 x9_1).f5).length : Int) := of_decide_eq_true (by first | (with_reducible assumption) | assumption)
                           obtain ⟨ad104, e104, hx104_0, hx104_1⟩ := at_T46 HR101_7.out x6_4 p104 q104
                           cases e104
                           replace hx104_0 := (HB.out.cell (World.block_lt_of_cell? w _ hx104_0)).trans hx104_0
                           replace hx104_1 := (HB.out.cell (World.block_lt_of_cell? w _ hx104_1)).trans hx104_1
                           replace p104 := eq_true p104
                           replace q104 := eq_true q104
                           go_wp2
                           go_ret
                           exact ⟨by first | rfl | (simp [errW_none, errW_some] <;> rfl) | (simp [*, errW_none, errW_some] <;> rfl), by repeat (first | (with_reducible first | exact HB.out | apply below_alloc | apply pw_below_drewN | apply below_drew1 | refine below_set ?_ GE102.out) | exact HB.out)⟩
                         · rw [if_neg c24] at H
                           have c24b0 : decide (100 < (((rd_T46 ((rd_T32 l0 x9_1).f5) x6_4).f0).size : Int)) = false := decide_eq_false c24
                           have c24b1 : decide (100 < ((rd_T46 ((rd_T32 l0 x9_1).f5) x6_4).f0).size) = false := decide_eq_false (by omega)
                           clear c24
                           by_cases c26 : (((rd_T46 ((rd_T32 l0 x9_1).f5) x6_4).f1).size : Int) > 100
                           · rw [if_pos c26] at H
                             have c26b0 : decide (100 < (((rd_T46 ((rd_T32 l0 x9_1).f5) x6_4).f1).size : Int)) = true := decide_eq_true c26
                             have c26b1 : decide (100 < ((rd_T46 ((rd_T32 l0 x9_1).f5) x6_4).f1).size) = true := decide_eq_true (by omega)
                             clear c26
                             obtain rfl := Option.some.inj H
                             refine blk9_ BK102.out fun hcz27_0 hcz27_1 hcz27_2 hcz27_3 hcz27_4 hcz27_5 hcz27_6 hcz27_7 hcz27_8 hfz27_0 hfz27_1 hfz27_2 hfz27_3 hfz27_4 hfz27_5 hfz27_6 hfz27_7 hfz27_8 => ?_
                             have p104 : 0 ≤ (x6_4 : Int) := of_decide_eq_true (by first | (with_reducible assumption) | assumption)
                             have q104 : x6_4 < (((rd_T32 l0 x9_1).f5).length : Int) := of_decide_eq_true (by first | (with_reducible assumption) | assumption)
                             obtain ⟨ad104, e104, hx104_0, hx104_1⟩ := at_T46 HR101_7.out x6_4 p104 q104
                             cases e104
                             replace hx104_0 := (HB.out.cell (World.block_lt_of_cell? w _ hx104_0)).trans hx104_0
                             replace hx104_1 := (HB.out.cell (World.block_lt_of_cell? w _ hx104_1)).trans hx104_1
                             replace p104 := eq_true p104
                             replace q104 := eq_true q104
                             have p105 : 0 ≤ (x6_4 : Int) := of_decide_eq_true (by first | (with_reducible assumption) | assumption)
                             have q105 : x6_4 < (((rd_T32 l0 x9_1).f5).length : Int) := of_decide_eq_true (by first | (with_reducible assumption) | assumption)
                             obtain ⟨ad105, e105, hx105_0, hx105_1⟩ := at_T46 HR101_7.out x6_4 p105 q105
                             obtain rfl : ad104 = ad105 := (by injection e105)
                             replace hx105_0 := (HB.out.cell (World.block_lt_of_cell? w _ hx105_0)).trans hx105_0
                             replace hx105_1 := (HB.out.cell (World.block_lt_of_cell? w _ hx105_1)).trans hx105_1
                             replace p105 := eq_true p105
                             replace q105 := eq_true q105
                             go_wp2
                             go_ret
                             exact ⟨by first | rfl | (simp [errW_none, errW_some] <;> rfl) | (simp [*, errW_none, errW_some] <;> rfl), by repeat (first | (with_reducible first | exact HB.out | apply below_alloc | apply pw_below_drewN | apply below_drew1 | refine below_set ?_ GE102.out) | exact HB.out)⟩
                           · rw [if_neg c26] at H
                             have c26b0 : decide (100 < (((rd_T46 ((rd_T32 l0 x9_1).f5) x6_4).f1).size : Int)) = false := decide_eq_false c26
                             have c26b1 : decide (100 < ((rd_T46 ((rd_T32 l0 x9_1).f5) x6_4).f1).size) = false := decide_eq_false (by omega)
                             clear c26
                             have H' := Aside0.mk H
                             clear H
                             refine blk9_ BK102.out fun hcz28_0 hcz28_1 hcz28_2 hcz28_3 hcz28_4 hcz28_5 hcz28_6 hcz28_7 hcz28_8 hfz28_0 hfz28_1 hfz28_2 hfz28_3 hfz28_4 hfz28_5 hfz28_6 hfz28_7 hfz28_8 => ?_
                             have p104 : 0 ≤ (x6_4 : Int) := of_decide_eq_true (by first | (with_reducible assumption) | assumption)
                             have q104 : x6_4 < (((rd_T32 l0 x9_1).f5).length : Int) := of_decide_eq_true (by first | (with_reducible assumption) | assumption)
                             obtain ⟨ad104, e104, hx104_0, hx104_1⟩ := at_T46 HR101_7.out x6_4 p104 q104
                             cases e104
                             replace hx104_0 := (HB.out.cell (World.block_lt_of_cell? w _ hx104_0)).trans hx104_0
                             replace hx104_1 := (HB.out.cell (World.block_lt_of_cell? w _ hx104_1)).trans hx104_1
                             replace p104 := eq_true p104
                             replace q104 := eq_true q104
                             have p105 : 0 ≤ (x6_4 : Int) := of_decide_eq_true (by first | (with_reducible assumption) | assumption)
                             have q105 : x6_4 < (((rd_T32 l0 x9_1).f5).length : Int) := of_decide_eq_true (by first | (with_reducible assumption) | assumption)
                             obtain ⟨ad105, e105, hx105_0, hx105_1⟩ := at_T46 HR101_7.out x6_4 p105 q105
                             obtain rfl : ad104 = ad105 := (by injection e105)
                             replace hx105_0 := (HB.out.cell (World.block_lt_of_cell? w _ hx105_0)).trans hx105_0
                             replace hx105_1 := (HB.out.cell (World.block_lt_of_cell? w _ hx105_1)).trans hx105_1
                             replace p105 := eq_true p105
                             replace q105 := eq_true q105
                             go_wp2
                             go_roundg kj16
                             case measure => have := HK1.out; have := HK2.out; have := HJ6.out; have := HK4.out; have := HJ16.out; omega
                             case rel => exact ⟨(wrap64 (x6_4 + 1)), (by first | rfl | (simp; done) | (simp [*]; done)), H', ⟨by have := HK1.out; have := HK2.out; have := HJ6.out; have := HK4.out; have := HJ16.out; omega⟩, ⟨by (with_reducible repeat (first | refine blk_drewN ?_ _ | refine blk_drew ?_ | refine blk_alloc ?_ _)); exact BK102.out⟩, ⟨by repeat (first | (with_reducible first | exact HB.out | apply below_alloc | apply pw_below_drewN | apply below_drew1 | refine below_set ?_ GE102.out) | exact HB.out)⟩⟩
                       · rw [if_neg c23] at H
                         exact absurd H (by simp)
                     · rw [if_neg c22] at H
                       exact absurd H (by simp)
                   · replace c21 := Bool.eq_false_iff.mpr c21
                     subst c21
                     rw [if_neg (show ¬ (false = true) by decide)] at H
                     by_cases c29 : (((rd_T32 l0 x9_1).f4).length : Int) > 20
                     · rw [if_pos c29] at H
                       have c29b0 : decide (20 < (((rd_T32 l0 x9_1).f4).length : Int)) = true := decide_eq_true c29
                       have c29b1 : decide (20 < ((rd_T32 l0 x9_1).f4).length) = true := decide_eq_true (by omega)
                       clear c29
                       obtain rfl := Option.some.inj H
                       refine blk9_ BK102.out fun hcz30_0 hcz30_1 hcz30_2 hcz30_3 hcz30_4 hcz30_5 hcz30_6 hcz30_7 hcz30_8 hfz30_0 hfz30_1 hfz30_2 hfz30_3 hfz30_4 hfz30_5 hfz30_6 hfz30_7 hfz30_8 => ?_
                       go_wp2
                       go_ret
                       exact ⟨by first | rfl | (simp [errW_none, errW_some] <;> rfl) | (simp [*, errW_none, errW_some] <;> rfl), by repeat (first | (with_reducible first | exact HB.out | apply below_alloc | apply pw_below_drewN | apply below_drew1 | refine below_set ?_ GE102.out) | exact HB.out)⟩
                     · rw [if_neg c29] at H
                       have c29b0 : decide (20 < (((rd_T32 l0 x9_1).f4).length : Int)) = false := decide_eq_false c29
                       have c29b1 : decide (20 < ((rd_T32 l0 x9_1).f4).length) = false := decide_eq_false (by omega)
                       clear c29
                       by_cases c31 : (((rd_T32 l0 x9_1).f5).length : Int) > 20
                       · rw [if_pos c31] at H
                         have c31b0 : decide (20 < (((rd_T32 l0 x9_1).f5).length : Int)) = true := decide_eq_true c31
                         have c31b1 : decide (20 < ((rd_T32 l0 x9_1).f5).length) = true := decide_eq_true (by omega)
                         clear c31
                         obtain rfl := Option.some.inj H
                         refine blk9_ BK102.out fun hcz32_0 hcz32_1 hcz32_2 hcz32_3 hcz32_4 hcz32_5 hcz32_6 hcz32_7 hcz32_8 hfz32_0 hfz32_1 hfz32_2 hfz32_3 hfz32_4 hfz32_5 hfz32_6 hfz32_7 hfz32_8 => ?_
                         go_wp2
                         go_ret
                         exact ⟨by first | rfl | (simp [errW_none, errW_some] <;> rfl) | (simp [*, errW_none, errW_some] <;> rfl), by repeat (first | (with_reducible first | exact HB.out | apply below_alloc | apply pw_below_drewN | apply below_drew1 | refine below_set ?_ GE102.out) | exact HB.out)⟩
                       · rw [if_neg c31] at H
                         have c31b0 : decide (20 < (((rd_T32 l0 x9_1).f5).length : Int)) = false := decide_eq_false c31
                         have c31b1 : decide (20 < ((rd_T32 l0 x9_1).f5).length) = false := decide_eq_false (by omega)
                         clear c31
                         have H' := Aside0.mk H
                         clear H
                         refine blk9_ BK102.out fun hcz33_0 hcz33_1 hcz33_2 hcz33_3 hcz33_4 hcz33_5 hcz33_6 hcz33_7 hcz33_8 hfz33_0 hfz33_1 hfz33_2 hfz33_3 hfz33_4 hfz33_5 hfz33_6 hfz33_7 hfz33_8 => ?_
                         go_wp2
                         go_roundg kj16
                         case measure => have := HK1.out; have := HK2.out; have := HJ6.out; have := HK4.out; have := HJ16.out; omega
                         case rel => exact ⟨(wrap64 (x9_1 + 1)), (by first | rfl | (simp; done) | (simp [*]; done)), H', ⟨by have := HK1.out; have := HK2.out; have := HJ6.out; have := HK4.out; have := HJ16.out; omega⟩, ⟨by repeat (first | (with_reducible first | exact HB.out | apply below_alloc | apply pw_below_drewN | apply below_drew1 | refine below_set ?_ GE102.out) | exact HB.out)⟩⟩
       · rw [if_neg c4] at H
         exact absurd H (by simp)
     · rw [if_neg c3] at H
       exact absurd H (by simp)
   · rw [if_neg c2] at H
     have c2b0 : decide (x9_1 < (l0.length : Int)) = false := decide_eq_false c2
     clear c2
     obtain rfl := Option.some.inj H
     go_wp2
     go_ret
     exact ⟨by first | rfl | (simp [errW_none, errW_some] <;> rfl) | (simp [*, errW_none, errW_some] <;> rfl), by repeat (first | (with_reducible first | exact HB.out | apply below_alloc | apply pw_below_drewN | apply below_drew1) | exact HB.out)⟩
end Go.Proofs.Ytklbmdakoeoplaa.X
end
section
namespace Go.Proofs.Ytklbmdakoeoplaa.X
open Go.RowKit Go.Proofs.YtklbmdakoeoplaaW.PrintWords Go.Proofs.YtklbmdakoeoplaaW.PrintLast Go.Proofs.YtklbmdakoeoplaaW.PrintMore
attribute [local go_sem] max2_int min2_int max_two min_two max_three min_three max_four min_four   -- for this text's walks alone
set_option linter.unusedVariables false
set_option linter.unusedSimpArgs false
/-! ### althinglaw11_Few: function 10 -/
mutual
def althinglaw11_Few.l0 : Nat → List (S44) → Int → Option (Bool)
 | 0, _, _ => none
 | k + 1, x0, x3 => if x3 < (x0.length : Int) then (althinglaw11_Few.j1 k x0 x3 (decide (x3 ≤ 20))) else (althinglaw11_Few.j1 k x0 x3 false)
def althinglaw11_Few.j1 : Nat → List (S44) → Int → Bool → Option (Bool)
 | 0, _, _, _ => none
 | k + 1, x0, x3, x11 => if x11 = true then (if 0 ≤ x3 then (if x3 < (x0.length : Int) then ((althinglaw05_Few.f k (([(⟨(rd_T44 x0 x3).f4.f0, (⟨(rd_T44 x0 x3).f4.f1.f0, (rd_T44 x0 x3).f4.f1.f1⟩ : S26), (⟨(rd_T44 x0 x3).f4.f2.f0, (rd_T44 x0 x3).f4.f2.f1⟩ : S28), (rd_T44 x0 x3).f4.f3, (rd_T44 x0 x3).f4.f4, (rd_T44 x0 x3).f4.f5, (rd_T44 x0 x3).f4.f6⟩ : S32)] : List (S32)))).bind fun t110 => (if t110 = true then (althinglaw11_Few.l0 k x0 (wrap64 (x3 + 1))) else (some false))) else (none)) else (none)) else (some (decide ((x0.length : Int) ≤ 20)))
end
def althinglaw11_Few.f (k : Nat) (l0 : List (S44)) : Option (Bool) := althinglaw11_Few.l0 k l0 0
set_option maxHeartbeats 8000000 in
set_option maxRecDepth 100000 in
theorem althinglaw11_Few.calls (k : Nat) (P0_ : Nat → Prop) (A0 : Option Addr) (c0 : Nat) (l0 : List (S44)) (r : Bool) (w : World) (hs0 : Kd.V k44 44 w w.heap.size (fun k_ => P0_ k_) (.slice A0 l0.length c0) l0) (h : althinglaw11_Few.f k l0 = some r) :
 Calls Try.prog 10 #[.slice A0 l0.length c0] w fun e w' => e = .returned (.bool r) ∧ Below w.heap.size w w' := by
 have hu32 := Try.underlying32
 have HO0 := Aside0.mk (show Kd.V k44 44 w w.heap.size (fun k_ => (P0_ k_ ∨ w.heap.size ≤ k_)) (.slice A0 l0.length c0) l0 from Kd.V_mono hs0 (fun k_ hk => .inl hk))
 have HB := Aside0.mk (Below.refl w.heap.size w)
 have H : (althinglaw11_Few.l0 k l0 0) = some r := h
 clear h
 have H' := Aside0.mk H
 clear H
 go_enter Try.func10, Try.ntmps10
 go_wp2
 go_loopg [3] k (fun kq v3 w' => ∃ (x3_1 : Int), v3 = .int .i64 x3_1 ∧ Aside0 (althinglaw11_Few.l0 kq l0 x3_1 = some r) ∧ Aside0 (kq ≤ k) ∧ Aside0 (Kd.V k44 44 w' w.heap.size (fun k_ => (P0_ k_ ∨ w.heap.size ≤ k_)) (.slice A0 l0.length c0) l0) ∧ Aside0 (Below w.heap.size w w'))
 case atStart => exact ⟨(0), (by first | rfl | (simp; done) | (simp [*]; done)), H', ⟨Nat.le_refl _⟩, ⟨by (with_reducible repeat (first | apply Kd.V_alloc | apply Kd.V_drewN | apply Kd.V_drew)); exact HO0.out⟩, ⟨by repeat (first | (with_reducible first | exact HB.out | apply below_alloc | apply pw_below_drewN | apply below_drew1) | exact HB.out)⟩⟩
 case round =>
  clear H'
  try clear c1
  obtain ⟨x3_1, rfl, HA, HK1, HO_0, HB⟩ := hrel
  cases gk with
  | zero => exact absurd HA.out (by simp [althinglaw11_Few.l0])
  | succ k1 =>
   have H := HA.out
   clear HA
   simp only [althinglaw11_Few.l0] at H
   have HC2 := Aside0.mk H
   clear H
   go_upto_region 2 with (fail)
   go_cut [11] (fun v11 wc => ∃ (kq : Nat) (x11_1 : Bool), v11 = .bool x11_1 ∧ Aside0 (althinglaw11_Few.j1 kq l0 x3_1 x11_1 = some r) ∧ Aside0 (kq ≤ k1) ∧ Aside0 (Kd.V k44 44 wc w.heap.size (fun k_ => (P0_ k_ ∨ w.heap.size ≤ k_)) (.slice A0 l0.length c0) l0) ∧ Aside0 (Below w.heap.size w wc))
   case first =>
    have H := HC2.out
    clear HC2
    by_cases c3 : x3_1 < (l0.length : Int)
    · rw [if_pos c3] at H
      have c3b0 : decide (x3_1 < (l0.length : Int)) = true := decide_eq_true c3
      clear c3
      (first | rw [c3b0] | (simp only [i64_w, i32_w]; rw [c3b0]) | skip)
      have H' := Aside0.mk H
      clear H
      go_wp2
      go_meet
      case rel => exact ⟨_, (decide (x3_1 ≤ 20)), (by first | rfl | (simp; done) | (simp [*]; done)), H', ⟨by have := HK1.out; first | omega | exact Nat.le_refl _⟩, ⟨by (with_reducible repeat (first | apply Kd.V_alloc | apply Kd.V_drewN | apply Kd.V_drew)); exact HO_0.out⟩, ⟨by repeat (first | (with_reducible first | exact HB.out | apply below_alloc | apply pw_below_drewN | apply below_drew1) | exact HB.out)⟩⟩
    · rw [if_neg c3] at H
      have c3b0 : decide (x3_1 < (l0.length : Int)) = false := decide_eq_false c3
      clear c3
      (first | rw [c3b0] | (simp only [i64_w, i32_w]; rw [c3b0]) | skip)
      have H' := Aside0.mk H
      clear H
      go_wp2
      go_meet
      case rel => exact ⟨_, (false), (by first | rfl | (simp; done) | (simp [*]; done)), H', ⟨by have := HK1.out; first | omega | exact Nat.le_refl _⟩, ⟨by (with_reducible repeat (first | apply Kd.V_alloc | apply Kd.V_drewN | apply Kd.V_drew)); exact HO_0.out⟩, ⟨by repeat (first | (with_reducible first | exact HB.out | apply below_alloc | apply pw_below_drewN | apply below_drew1) | exact HB.out)⟩⟩
   case rest =>
    clear HC2
    try clear c1
    try clear p2
    try clear c3
    try clear c3b0
    obtain ⟨kq, x11_1, rfl, HA, HJ1, HO_0, HB⟩ := hcut
    cases kq with
    | zero => exact absurd HA.out (by simp [althinglaw11_Few.j1])
    | succ kj1 =>
     have H := HA.out
     clear HA
     simp only [althinglaw11_Few.j1] at H
     by_cases c4 : x11_1 = true
     · subst c4
       rw [if_pos rfl] at H
       by_cases c5 : 0 ≤ x3_1
       · rw [if_pos c5] at H
         have c5b0 : decide (0 ≤ x3_1) = true := decide_eq_true c5
         clear c5
         by_cases c6 : x3_1 < (l0.length : Int)
         · rw [if_pos c6] at H
           have c6b0 : decide (x3_1 < (l0.length : Int)) = true := decide_eq_true c6
           clear c6
           obtain ⟨y107, hy107⟩ : ∃ y_ : List (S32), y_ = (([(⟨(rd_T44 l0 x3_1).f4.f0, (⟨(rd_T44 l0 x3_1).f4.f1.f0, (rd_T44 l0 x3_1).f4.f1.f1⟩ : S26), (⟨(rd_T44 l0 x3_1).f4.f2.f0, (rd_T44 l0 x3_1).f4.f2.f1⟩ : S28), (rd_T44 l0 x3_1).f4.f3, (rd_T44 l0 x3_1).f4.f4, (rd_T44 l0 x3_1).f4.f5, (rd_T44 l0 x3_1).f4.f6⟩ : S32)] : List (S32))) := ⟨_, rfl⟩
           replace H : ((althinglaw05_Few.f kj1 y107).bind fun t110 => (if t110 = true then (althinglaw11_Few.l0 kj1 l0 (wrap64 (x3_1 + 1))) else (some false))) = some r := by first | (rw [hy107]; with_reducible exact H) | (have H2_ := (Option.bind_some _ _).symm.trans H; rw [hy107]; with_reducible exact H2_) | (have H2_ := (Option.bind_some _ _).symm.trans H; with_reducible exact H2_) | with_reducible exact H | (rw [hy107]; exact H) | exact H
           have Ny107 := Aside0.mk hy107
           clear hy107
           obtain ⟨t110, A7, H⟩ := bs_ H
           by_cases c8 : t110 = true
           · subst c8
             rw [if_pos rfl] at H
             have H' := Aside0.mk H
             clear H
             have p106 : 0 ≤ (x3_1 : Int) := of_decide_eq_true (by first | (with_reducible assumption) | assumption)
             have q106 : x3_1 < (l0.length : Int) := of_decide_eq_true (by first | (with_reducible assumption) | assumption)
             obtain ⟨ad106, A106_13, c106_13, A106_14, c106_14, e106, hx106_0, hx106_1, hx106_2, hx106_3, hx106_4, hx106_5, hx106_6, hx106_7, hx106_8, hx106_9, hx106_10, hx106_11, hx106_12, hx106_13, hx106_14, hx106_15, hx106_16, hx106_17, hx106_18, hx106_19, hx106_20, hx106_21, hx106_22, hx106_23, hx106_24, hl106_13, hi106_13, hl106_14, hi106_14⟩ := at_T44 (Kd.V_reads' HO_0.out).2.2 x3_1 p106 q106
             cases e106
             obtain ⟨ce106, hce106, hMe106, hcc106⟩ := Kd.V_get HO_0.out z44 x3_1 p106 (by first | exact q106 | exact of_decide_eq_true (by first | (with_reducible assumption) | assumption) | (have e_ := (Kd.V_reads' HO_0.out).1; omega))
             obtain ⟨ua106_13, uc106_13, ua106_14, uc106_14, rfl, ul106_13, ge106_13, ul106_14, ge106_14⟩ := k44_openF hMe106
             have hv106_13 := hcc106 13 _ rfl
             rw [add_field _ _ 13 (by omega)] at hv106_13
             replace hv106_13 := Option.some.inj (hv106_13.symm.trans hx106_13)
             injection hv106_13 with hva_ hvn_ hvc_
             rw [hva_] at ge106_13
             rw [hvc_] at ul106_13
             have HL106_13 := Aside0.mk (show Kd.V k61 61 _ w.heap.size _ _ ((rd_T44 l0 x3_1).f4.f4) from Kd.V_mk ul106_13 ge106_13)
             clear hva_ hvn_ hvc_ ge106_13 ul106_13
             have hv106_14 := hcc106 14 _ rfl
             rw [add_field _ _ 14 (by omega)] at hv106_14
             replace hv106_14 := Option.some.inj (hv106_14.symm.trans hx106_14)
             injection hv106_14 with hva_ hvn_ hvc_
             rw [hva_] at ge106_14
             rw [hvc_] at ul106_14
             have HL106_14 := Aside0.mk (show Kd.V k46 46 _ w.heap.size _ _ ((rd_T44 l0 x3_1).f4.f5) from Kd.V_mk ul106_14 ge106_14)
             clear hva_ hvn_ hvc_ ge106_14 ul106_14
             clear hcc106 hce106
             have HR106_13 := Aside0.mk hi106_13
             have HC106_13 := Aside0.mk hl106_13
             clear hi106_13 hl106_13
             have HR106_14 := Aside0.mk hi106_14
             have HC106_14 := Aside0.mk hl106_14
             clear hi106_14 hl106_14
             replace p106 := eq_true p106
             replace q106 := eq_true q106
             go_wp2_with (first | ((with_reducible refine gate_dst (N := 19) rfl ?_); refine Kd.N_lit k32 _ 32 ?hg (N' := 19) ?hd (xs := ([(⟨(rd_T44 l0 x3_1).f4.f0, (⟨(rd_T44 l0 x3_1).f4.f1.f0, (rd_T44 l0 x3_1).f4.f1.f1⟩ : S26), (⟨(rd_T44 l0 x3_1).f4.f2.f0, (rd_T44 l0 x3_1).f4.f2.f1⟩ : S28), (rd_T44 l0 x3_1).f4.f3, (rd_T44 l0 x3_1).f4.f4, (rd_T44 l0 x3_1).f4.f5, (rd_T44 l0 x3_1).f4.f6⟩ : S32)] : List (S32))) (inner := [.int .i64 ((rd_T44 l0 x3_1).f4.f0), .int .i64 ((rd_T44 l0 x3_1).f4.f1.f0), .int .i64 ((rd_T44 l0 x3_1).f4.f1.f1), .int .i64 ((rd_T44 l0 x3_1).f4.f2.f0), .int .i64 ((rd_T44 l0 x3_1).f4.f2.f1), .int .i64 ((rd_T44 l0 x3_1).f4.f3), .slice A106_13 ((rd_T44 l0 x3_1).f4.f4).length c106_13, .slice A106_14 ((rd_T44 l0 x3_1).f4.f5).length c106_14, .bool ((rd_T44 l0 x3_1).f4.f6)]) (ok := (fun k_ => (P0_ k_ ∨ w.heap.size ≤ k_))) (okp := (fun k_ => (P0_ k_ ∨ w.heap.size ≤ k_))) ?hr ?hp (fun _ hk => hk) ((show ∀ k_, wc.heap.size ≤ k_ → (fun k_ => (P0_ k_ ∨ w.heap.size ≤ k_)) k_ from fun k_ hk => (.inr (Nat.le_trans (below_size lb_) hk))) _ (Nat.le_refl _)) (Below.refl _ _) (Nat.le_refl _) (by simp) ?_; (case hd => rfl); (case hg => rfl); (case hr => first | (go_simp; done) | (go_simp; rfl)); (case hp => exact (Reps.c9 (show Kd.FK k32 _ _ (⟨(rd_T44 l0 x3_1).f4.f0, (⟨(rd_T44 l0 x3_1).f4.f1.f0, (rd_T44 l0 x3_1).f4.f1.f1⟩ : S26), (⟨(rd_T44 l0 x3_1).f4.f2.f0, (rd_T44 l0 x3_1).f4.f2.f1⟩ : S28), (rd_T44 l0 x3_1).f4.f3, (rd_T44 l0 x3_1).f4.f4, (rd_T44 l0 x3_1).f4.f5, (rd_T44 l0 x3_1).f4.f6⟩ : S32) [.int .i64 ((rd_T44 l0 x3_1).f4.f0), .int .i64 ((rd_T44 l0 x3_1).f4.f1.f0), .int .i64 ((rd_T44 l0 x3_1).f4.f1.f1), .int .i64 ((rd_T44 l0 x3_1).f4.f2.f0), .int .i64 ((rd_T44 l0 x3_1).f4.f2.f1), .int .i64 ((rd_T44 l0 x3_1).f4.f3), .slice A106_13 ((rd_T44 l0 x3_1).f4.f4).length c106_13, .slice A106_14 ((rd_T44 l0 x3_1).f4.f5).length c106_14, .bool ((rd_T44 l0 x3_1).f4.f6)] from (k32_mkF _ _ (⟨(rd_T44 l0 x3_1).f4.f0, (⟨(rd_T44 l0 x3_1).f4.f1.f0, (rd_T44 l0 x3_1).f4.f1.f1⟩ : S26), (⟨(rd_T44 l0 x3_1).f4.f2.f0, (rd_T44 l0 x3_1).f4.f2.f1⟩ : S28), (rd_T44 l0 x3_1).f4.f3, (rd_T44 l0 x3_1).f4.f4, (rd_T44 l0 x3_1).f4.f5, (rd_T44 l0 x3_1).f4.f6⟩ : S32) (Kd.V_reads' (Kd.V_mono (ok' := (fun k_ => (P0_ k_ ∨ w.heap.size ≤ k_))) (HL106_13.out) (fun k_ hk => hk))).2.1 (Kd.V_F (Kd.V_mono (ok' := (fun k_ => (P0_ k_ ∨ w.heap.size ≤ k_))) (HL106_13.out) (fun k_ hk => hk))) (Kd.V_reads' (Kd.V_mono (ok' := (fun k_ => (P0_ k_ ∨ w.heap.size ≤ k_))) (HL106_14.out) (fun k_ hk => hk))).2.1 (Kd.V_F (Kd.V_mono (ok' := (fun k_ => (P0_ k_ ∨ w.heap.size ≤ k_))) (HL106_14.out) (fun k_ hk => hk))))) (Reps.none _ _))); intro v108 w9 ho10 hb hg_ hnew_; clear hg_ hnew_; (first | rw [← Ny107.out] at ho10 | (simp only [Int.reduceToNat] at ho10; rw [← Ny107.out] at ho10)); have n0_ := Aside0.mk (Kd.V_elder' (kv_ HO_0.out) (Kd.N_base ho10) hb); have n1_ := Aside0.mk (Kd.V_elder' (kv_ HL106_13.out) (Kd.N_base ho10) hb); have n2_ := Aside0.mk (Kd.V_elder' (kv_ HL106_14.out) (Kd.N_base ho10) hb); have n3_ := Aside0.mk (Kd.N_lower ho10 (below_size lb_)); have n4_ := Aside0.mk (Kd.C_below (by repeat (first | (with_reducible exact HR106_13.out) | (with_reducible refine Kd.C_alloc ?_ _) | (with_reducible refine Kd.C_drewN ?_ _) | (with_reducible refine Kd.C_drew ?_) | exact HR106_13.out)) hb); have n5_ := Aside0.mk (Kd.C_below (by repeat (first | (with_reducible exact HR106_14.out) | (with_reducible refine Kd.C_alloc ?_ _) | (with_reducible refine Kd.C_drewN ?_ _) | (with_reducible refine Kd.C_drew ?_) | exact HR106_14.out)) hb); have n6_ := Aside0.mk (below_step lb_ hb); clear HO_0; clear HL106_13; clear HL106_14; clear HR106_13; clear HR106_14; clear HB; have HO_0 := n0_; have HL106_13 := n1_; have HL106_14 := n2_; have HO109 := n3_; have HR106_13 := n4_; have HR106_14 := n5_; have HB := n6_; clear n0_ n1_ n2_ n3_ n4_ n5_ n6_; clear hb ho10; obtain ⟨Ao11, co11, eo11⟩ := Kd.N_slice HO109.out; subst eo11) | ((with_reducible refine gate_callee (f := 11) rfl ?_); refine goesL_ (some 20) rfl rfl Try.func11 (by kernel_rfl) rfl #[.slice Ao11 y107.length co11] rfl (by (try simp only [List.map_toArray, List.map_cons, List.map_nil]); first | done | rfl | (simp only [List.length_drop, List.length_take]; rfl)) ?_; (with_reducible refine (althinglaw05_Few.calls kj1 _ _ y107 true _ ?side1 ?side2 A7.out).mono ?_); (case side1 => repeat (first | exact (Kd.N_reads' HO109.out).2.2 | (with_reducible refine Kd.C_alloc ?_ _) | (with_reducible refine Kd.C_drewN ?_ _) | (with_reducible refine Kd.C_drew ?_))); (case side2 => exact (Kd.N_reads' HO109.out).2.1); rintro e w12 ⟨rfl, hb⟩; refine ⟨_, rfl, ?_⟩; have n0_ := Aside0.mk (Kd.V_below (kv_ HO_0.out) hb); have n1_ := Aside0.mk (Kd.V_below (kv_ HL106_13.out) hb); have n2_ := Aside0.mk (Kd.V_below (kv_ HL106_14.out) hb); have n3_ := Aside0.mk (Kd.N_below (kn_ HO109.out) hb); have n4_ := Aside0.mk (Kd.C_below (by repeat (first | (with_reducible exact HR106_13.out) | (with_reducible refine Kd.C_alloc ?_ _) | (with_reducible refine Kd.C_drewN ?_ _) | (with_reducible refine Kd.C_drew ?_) | exact HR106_13.out)) hb); have n5_ := Aside0.mk (Kd.C_below (by repeat (first | (with_reducible exact HR106_14.out) | (with_reducible refine Kd.C_alloc ?_ _) | (with_reducible refine Kd.C_drewN ?_ _) | (with_reducible refine Kd.C_drew ?_) | exact HR106_14.out)) hb); have n6_ := Aside0.mk (below_step lb_ hb); clear HO_0; clear HL106_13; clear HL106_14; clear HO109; clear HR106_13; clear HR106_14; clear HB; have HO_0 := n0_; have HL106_13 := n1_; have HL106_14 := n2_; have HO109 := n3_; have HR106_13 := n4_; have HR106_14 := n5_; have HB := n6_; clear n0_ n1_ n2_ n3_ n4_ n5_ n6_; (try clear hb); (try clear hb2); (try clear hk); (try clear hi)))
             go_roundg kj1
             case measure => have := HK1.out; have := HJ1.out; omega
             case rel => exact ⟨(wrap64 (x3_1 + 1)), (by first | rfl | (simp; done) | (simp [*]; done)), H', ⟨by have := HK1.out; have := HJ1.out; omega⟩, ⟨by (with_reducible repeat (first | apply Kd.V_alloc | apply Kd.V_drewN | apply Kd.V_drew)); exact Kd.V_mono HO_0.out (fun _ hk => hk.1)⟩, ⟨by repeat (first | (with_reducible first | exact HB.out | apply below_alloc | apply pw_below_drewN | apply below_drew1) | exact HB.out)⟩⟩
           · replace c8 := Bool.eq_false_iff.mpr c8
             subst c8
             rw [if_neg (show ¬ (false = true) by decide)] at H
             obtain rfl := Option.some.inj H
             have p106 : 0 ≤ (x3_1 : Int) := of_decide_eq_true (by first | (with_reducible assumption) | assumption)
             have q106 : x3_1 < (l0.length : Int) := of_decide_eq_true (by first | (with_reducible assumption) | assumption)
             obtain ⟨ad106, A106_13, c106_13, A106_14, c106_14, e106, hx106_0, hx106_1, hx106_2, hx106_3, hx106_4, hx106_5, hx106_6, hx106_7, hx106_8, hx106_9, hx106_10, hx106_11, hx106_12, hx106_13, hx106_14, hx106_15, hx106_16, hx106_17, hx106_18, hx106_19, hx106_20, hx106_21, hx106_22, hx106_23, hx106_24, hl106_13, hi106_13, hl106_14, hi106_14⟩ := at_T44 (Kd.V_reads' HO_0.out).2.2 x3_1 p106 q106
             cases e106
             obtain ⟨ce106, hce106, hMe106, hcc106⟩ := Kd.V_get HO_0.out z44 x3_1 p106 (by first | exact q106 | exact of_decide_eq_true (by first | (with_reducible assumption) | assumption) | (have e_ := (Kd.V_reads' HO_0.out).1; omega))
             obtain ⟨ua106_13, uc106_13, ua106_14, uc106_14, rfl, ul106_13, ge106_13, ul106_14, ge106_14⟩ := k44_openF hMe106
             have hv106_13 := hcc106 13 _ rfl
             rw [add_field _ _ 13 (by omega)] at hv106_13
             replace hv106_13 := Option.some.inj (hv106_13.symm.trans hx106_13)
             injection hv106_13 with hva_ hvn_ hvc_
             rw [hva_] at ge106_13
             rw [hvc_] at ul106_13
             have HL106_13 := Aside0.mk (show Kd.V k61 61 _ w.heap.size _ _ ((rd_T44 l0 x3_1).f4.f4) from Kd.V_mk ul106_13 ge106_13)
             clear hva_ hvn_ hvc_ ge106_13 ul106_13
             have hv106_14 := hcc106 14 _ rfl
             rw [add_field _ _ 14 (by omega)] at hv106_14
             replace hv106_14 := Option.some.inj (hv106_14.symm.trans hx106_14)
             injection hv106_14 with hva_ hvn_ hvc_
             rw [hva_] at ge106_14
             rw [hvc_] at ul106_14
             have HL106_14 := Aside0.mk (show Kd.V k46 46 _ w.heap.size _ _ ((rd_T44 l0 x3_1).f4.f5) from Kd.V_mk ul106_14 ge106_14)
             clear hva_ hvn_ hvc_ ge106_14 ul106_14
             clear hcc106 hce106
             have HR106_13 := Aside0.mk hi106_13
             have HC106_13 := Aside0.mk hl106_13
             clear hi106_13 hl106_13
             have HR106_14 := Aside0.mk hi106_14
             have HC106_14 := Aside0.mk hl106_14
             clear hi106_14 hl106_14
             replace p106 := eq_true p106
             replace q106 := eq_true q106
             go_wp2_with (first | ((with_reducible refine gate_dst (N := 19) rfl ?_); refine Kd.N_lit k32 _ 32 ?hg (N' := 19) ?hd (xs := ([(⟨(rd_T44 l0 x3_1).f4.f0, (⟨(rd_T44 l0 x3_1).f4.f1.f0, (rd_T44 l0 x3_1).f4.f1.f1⟩ : S26), (⟨(rd_T44 l0 x3_1).f4.f2.f0, (rd_T44 l0 x3_1).f4.f2.f1⟩ : S28), (rd_T44 l0 x3_1).f4.f3, (rd_T44 l0 x3_1).f4.f4, (rd_T44 l0 x3_1).f4.f5, (rd_T44 l0 x3_1).f4.f6⟩ : S32)] : List (S32))) (inner := [.int .i64 ((rd_T44 l0 x3_1).f4.f0), .int .i64 ((rd_T44 l0 x3_1).f4.f1.f0), .int .i64 ((rd_T44 l0 x3_1).f4.f1.f1), .int .i64 ((rd_T44 l0 x3_1).f4.f2.f0), .int .i64 ((rd_T44 l0 x3_1).f4.f2.f1), .int .i64 ((rd_T44 l0 x3_1).f4.f3), .slice A106_13 ((rd_T44 l0 x3_1).f4.f4).length c106_13, .slice A106_14 ((rd_T44 l0 x3_1).f4.f5).length c106_14, .bool ((rd_T44 l0 x3_1).f4.f6)]) (ok := (fun k_ => (P0_ k_ ∨ w.heap.size ≤ k_))) (okp := (fun k_ => (P0_ k_ ∨ w.heap.size ≤ k_))) ?hr ?hp (fun _ hk => hk) ((show ∀ k_, wc.heap.size ≤ k_ → (fun k_ => (P0_ k_ ∨ w.heap.size ≤ k_)) k_ from fun k_ hk => (.inr (Nat.le_trans (below_size lb_) hk))) _ (Nat.le_refl _)) (Below.refl _ _) (Nat.le_refl _) (by simp) ?_; (case hd => rfl); (case hg => rfl); (case hr => first | (go_simp; done) | (go_simp; rfl)); (case hp => exact (Reps.c9 (show Kd.FK k32 _ _ (⟨(rd_T44 l0 x3_1).f4.f0, (⟨(rd_T44 l0 x3_1).f4.f1.f0, (rd_T44 l0 x3_1).f4.f1.f1⟩ : S26), (⟨(rd_T44 l0 x3_1).f4.f2.f0, (rd_T44 l0 x3_1).f4.f2.f1⟩ : S28), (rd_T44 l0 x3_1).f4.f3, (rd_T44 l0 x3_1).f4.f4, (rd_T44 l0 x3_1).f4.f5, (rd_T44 l0 x3_1).f4.f6⟩ : S32) [.int .i64 ((rd_T44 l0 x3_1).f4.f0), .int .i64 ((rd_T44 l0 x3_1).f4.f1.f0), .int .i64 ((rd_T44 l0 x3_1).f4.f1.f1), .int .i64 ((rd_T44 l0 x3_1).f4.f2.f0), .int .i64 ((rd_T44 l0 x3_1).f4.f2.f1), .int .i64 ((rd_T44 l0 x3_1).f4.f3), .slice A106_13 ((rd_T44 l0 x3_1).f4.f4).length c106_13, .slice A106_14 ((rd_T44 l0 x3_1).f4.f5).length c106_14, .bool ((rd_T44 l0 x3_1).f4.f6)] from (k32_mkF _ _ (⟨(rd_T44 l0 x3_1).f4.f0, (⟨(rd_T44 l0 x3_1).f4.f1.f0, (rd_T44 l0 x3_1).f4.f1.f1⟩ : S26), (⟨(rd_T44 l0 x3_1).f4.f2.f0, (rd_T44 l0 x3_1).f4.f2.f1⟩ : S28), (rd_T44 l0 x3_1).f4.f3, (rd_T44 l0 x3_1).f4.f4, (rd_T44 l0 x3_1).f4.f5, (rd_T44 l0 x3_1).f4.f6⟩ : S32) (Kd.V_reads' (Kd.V_mono (ok' := (fun k_ => (P0_ k_ ∨ w.heap.size ≤ k_))) (HL106_13.out) (fun k_ hk => hk))).2.1 (Kd.V_F (Kd.V_mono (ok' := (fun k_ => (P0_ k_ ∨ w.heap.size ≤ k_))) (HL106_13.out) (fun k_ hk => hk))) (Kd.V_reads' (Kd.V_mono (ok' := (fun k_ => (P0_ k_ ∨ w.heap.size ≤ k_))) (HL106_14.out) (fun k_ hk => hk))).2.1 (Kd.V_F (Kd.V_mono (ok' := (fun k_ => (P0_ k_ ∨ w.heap.size ≤ k_))) (HL106_14.out) (fun k_ hk => hk))))) (Reps.none _ _))); intro v108 w13 ho14 hb hg_ hnew_; clear hg_ hnew_; (first | rw [← Ny107.out] at ho14 | (simp only [Int.reduceToNat] at ho14; rw [← Ny107.out] at ho14)); have n0_ := Aside0.mk (Kd.V_elder' (kv_ HO_0.out) (Kd.N_base ho14) hb); have n1_ := Aside0.mk (Kd.V_elder' (kv_ HL106_13.out) (Kd.N_base ho14) hb); have n2_ := Aside0.mk (Kd.V_elder' (kv_ HL106_14.out) (Kd.N_base ho14) hb); have n3_ := Aside0.mk (Kd.N_lower ho14 (below_size lb_)); have n4_ := Aside0.mk (Kd.C_below (by repeat (first | (with_reducible exact HR106_13.out) | (with_reducible refine Kd.C_alloc ?_ _) | (with_reducible refine Kd.C_drewN ?_ _) | (with_reducible refine Kd.C_drew ?_) | exact HR106_13.out)) hb); have n5_ := Aside0.mk (Kd.C_below (by repeat (first | (with_reducible exact HR106_14.out) | (with_reducible refine Kd.C_alloc ?_ _) | (with_reducible refine Kd.C_drewN ?_ _) | (with_reducible refine Kd.C_drew ?_) | exact HR106_14.out)) hb); have n6_ := Aside0.mk (below_step lb_ hb); clear HO_0; clear HL106_13; clear HL106_14; clear HR106_13; clear HR106_14; clear HB; have HO_0 := n0_; have HL106_13 := n1_; have HL106_14 := n2_; have HO109 := n3_; have HR106_13 := n4_; have HR106_14 := n5_; have HB := n6_; clear n0_ n1_ n2_ n3_ n4_ n5_ n6_; clear hb ho14; obtain ⟨Ao15, co15, eo15⟩ := Kd.N_slice HO109.out; subst eo15) | ((with_reducible refine gate_callee (f := 11) rfl ?_); refine goesL_ (some 20) rfl rfl Try.func11 (by kernel_rfl) rfl #[.slice Ao15 y107.length co15] rfl (by (try simp only [List.map_toArray, List.map_cons, List.map_nil]); first | done | rfl | (simp only [List.length_drop, List.length_take]; rfl)) ?_; (with_reducible refine (althinglaw05_Few.calls kj1 _ _ y107 false _ ?side1 ?side2 A7.out).mono ?_); (case side1 => repeat (first | exact (Kd.N_reads' HO109.out).2.2 | (with_reducible refine Kd.C_alloc ?_ _) | (with_reducible refine Kd.C_drewN ?_ _) | (with_reducible refine Kd.C_drew ?_))); (case side2 => exact (Kd.N_reads' HO109.out).2.1); rintro e w16 ⟨rfl, hb⟩; refine ⟨_, rfl, ?_⟩; have n0_ := Aside0.mk (Kd.V_below (kv_ HO_0.out) hb); have n1_ := Aside0.mk (Kd.V_below (kv_ HL106_13.out) hb); have n2_ := Aside0.mk (Kd.V_below (kv_ HL106_14.out) hb); have n3_ := Aside0.mk (Kd.N_below (kn_ HO109.out) hb); have n4_ := Aside0.mk (Kd.C_below (by repeat (first | (with_reducible exact HR106_13.out) | (with_reducible refine Kd.C_alloc ?_ _) | (with_reducible refine Kd.C_drewN ?_ _) | (with_reducible refine Kd.C_drew ?_) | exact HR106_13.out)) hb); have n5_ := Aside0.mk (Kd.C_below (by repeat (first | (with_reducible exact HR106_14.out) | (with_reducible refine Kd.C_alloc ?_ _) | (with_reducible refine Kd.C_drewN ?_ _) | (with_reducible refine Kd.C_drew ?_) | exact HR106_14.out)) hb); have n6_ := Aside0.mk (below_step lb_ hb); clear HO_0; clear HL106_13; clear HL106_14; clear HO109; clear HR106_13; clear HR106_14; clear HB; have HO_0 := n0_; have HL106_13 := n1_; have HL106_14 := n2_; have HO109 := n3_; have HR106_13 := n4_; have HR106_14 := n5_; have HB := n6_; clear n0_ n1_ n2_ n3_ n4_ n5_ n6_; (try clear hb); (try clear hb2); (try clear hk); (try clear hi)))
             go_ret
             exact ⟨by first | rfl | (simp [errW_none, errW_some] <;> rfl) | (simp [*, errW_none, errW_some] <;> rfl), by repeat (first | (with_reducible first | exact HB.out | apply below_alloc | apply pw_below_drewN | apply below_drew1) | exact HB.out)⟩
         · rw [if_neg c6] at H
           exact absurd H (by simp)
       · rw [if_neg c5] at H
         exact absurd H (by simp)
     · replace c4 := Bool.eq_false_iff.mpr c4
       subst c4
       rw [if_neg (show ¬ (false = true) by decide)] at H
       obtain rfl := Option.some.inj H
       go_wp2
       go_ret
       exact ⟨by first | rfl | (simp [errW_none, errW_some] <;> rfl) | (simp [*, errW_none, errW_some] <;> rfl), by repeat (first | (with_reducible first | exact HB.out | apply below_alloc | apply pw_below_drewN | apply below_drew1) | exact HB.out)⟩
end Go.Proofs.Ytklbmdakoeoplaa.X
end
section
namespace Go.Proofs.Ytklbmdakoeoplaa
open Go.RowKit
set_option linter.unusedSimpArgs false
set_option linter.unusedVariables false
set_option maxRecDepth 100000
theorem idxDeps (w : World) (cs : Array Value) (i : Int) (h0 : 0 ≤ i) (h1 : i < 7) (hc : cs.size = 7) : (Instr.index 42 (.agg cs) (.int .i64 i)).run Try.prog w = .ok (cs.getD i.toNat undef) w :=
  run_index_arr 42 3 7 .i64 .i64 Try.underlying42 Try.underlying3 (by kernel_rfl) w cs i h0 h1 hc
theorem eqDeps (w : World) (x0 x1 x2 x3 x4 x5 x6 y0 y1 y2 y3 y4 y5 y6 : Int) :
    (Op.equalIn 10000 42 (.agg #[.int .i64 x0, .int .i64 x1, .int .i64 x2, .int .i64 x3, .int .i64 x4, .int .i64 x5, .int .i64 x6]) (.agg #[.int .i64 y0, .int .i64 y1, .int .i64 y2, .int .i64 y3, .int .i64 y4, .int .i64 y5, .int .i64 y6])).run Try.prog w =
      .ok (decide (x0 = y0 ∧ x1 = y1 ∧ x2 = y2 ∧ x3 = y3 ∧ x4 = y4 ∧ x5 = y5 ∧ x6 = y6)) w := by
  rw [run_equalIn_arr7 w 9998 42 3 .i64 .i64 Try.underlying42 Try.underlying3 (by kernel_rfl)]
  congr 1
  rw [Bool.eq_iff_iff]
  simp
attribute [local go_sem] eqDeps max2_int max_two min2_int min_two idxDeps Ext.cell Ext.frozen Ext.cell_set szlt1 szlt2 szlt3 szlt4 szlt5 szlt6
def at7 (a0 a1 a2 a3 a4 a5 a6 r : Int) : Int := if r = 0 then a0 else if r = 1 then a1 else if r = 2 then a2 else if r = 3 then a3 else if r = 4 then a4 else if r = 5 then a5 else a6
theorem rep_cases (r : Int) : r = 0 ∨ r = 1 ∨ r = 2 ∨ r = 3 ∨ r = 4 ∨ r = 5 ∨ r = 6 ∨ ¬ (0 ≤ r ∧ r < 7) := by omega

set_option maxHeartbeats 400000 in
theorem depIs_any (r s : Int) (b : Bool) (hb : b = decide (0 ≤ r ∧ r < 7)) (w : World) :
    Calls Try.prog 47 #[.agg #[.int .i64 r, .int .i64 s]] w fun e w' => e = .returned (.bool b) ∧ Below w.heap.size w w' := by
  have H := Lib.hid hb
  clear hb
  go_enter Try.func47, Try.ntmps47
  go_wp2
  all_goals
    go_ret
    exact ⟨ret_bool (by rw [H.out, Bool.eq_iff_iff]; simp; omega), by go_grown⟩

set_option maxHeartbeats 4000000 in
theorem Has_any (a0 a1 a2 a3 a4 a5 a6 r s : Int) (w : World) :
    Calls Try.prog 42 #[.agg #[.int .i64 a0, .int .i64 a1, .int .i64 a2, .int .i64 a3, .int .i64 a4, .int .i64 a5, .int .i64 a6], .agg #[.int .i64 r, .int .i64 s]] w fun e w' => e = .returned (.bool (decide (0 ≤ r ∧ r < 7 ∧ 1 ≤ s ∧ s ≤ at7 a0 a1 a2 a3 a4 a5 a6 r))) ∧ Below w.heap.size w w' := by
  rcases rep_cases r with rfl | rfl | rfl | rfl | rfl | rfl | rfl | hr
  case' inr.inr.inr.inr.inr.inr.inr =>
    go_enter Try.func42, Try.ntmps42
    go_wp2
    refine wp_region_ext (by kernel_rfl) (by kernel_rfl) ?_
    repeat (go_big_quiet_step (exact calls_ext (depIs_any _ _ false (by simp; omega) _)))
    refine wpQuiet_nil ?_
    rintro w' ⟨X, rfl⟩
    go_wp2
    go_ret
    exact ⟨ret_bool (by simp; omega), by
      exact ((((Below.refl _ _).alloc (Nat.le_refl _) _).alloc (by simp) _).trans (X.below.mono (by simp; omega)))⟩
  all_goals
    by_cases hs : 1 ≤ s
    all_goals
      have hsb := hs
      first
        | replace hsb : decide (1 ≤ s) = true := decide_eq_true hs
        | replace hsb : decide (1 ≤ s) = false := decide_eq_false hs
      go_enter Try.func42, Try.ntmps42
      go_wp2
      refine wp_region_ext (by kernel_rfl) (by kernel_rfl) ?_
      repeat (go_big_quiet_step (exact calls_ext (depIs_any _ _ true (by simp) _)))
      refine wpQuiet_nil ?_
      rintro w' ⟨X, rfl⟩
      go_wp2
      go_ret
      exact ⟨ret_bool (by rw [Bool.eq_iff_iff]; simp [at7]; try omega), by
        exact ((((Below.refl _ _).alloc (Nat.le_refl _) _).alloc (by simp) _).trans (X.below.mono (by simp; omega)))⟩

set_option maxHeartbeats 4000000 in
theorem With_any (a0 a1 a2 a3 a4 a5 a6 r s : Int) (v : Value) (hv : v = .agg #[.int .i64 (if r = 0 then max a0 s else a0), .int .i64 (if r = 1 then max a1 s else a1), .int .i64 (if r = 2 then max a2 s else a2), .int .i64 (if r = 3 then max a3 s else a3), .int .i64 (if r = 4 then max a4 s else a4), .int .i64 (if r = 5 then max a5 s else a5), .int .i64 (if r = 6 then max a6 s else a6)]) (w : World) :
    Calls Try.prog 38 #[.agg #[.int .i64 a0, .int .i64 a1, .int .i64 a2, .int .i64 a3, .int .i64 a4, .int .i64 a5, .int .i64 a6], .agg #[.int .i64 r, .int .i64 s]] w fun e w' => e = .returned v ∧ Below w.heap.size w w' := by
  have HV := Lib.hid hv
  clear hv
  rcases rep_cases r with rfl | rfl | rfl | rfl | rfl | rfl | rfl | hr
  case' inr.inr.inr.inr.inr.inr.inr =>
    have n0 := show ¬ (r = 0) by omega
    have n1 := show ¬ (r = 1) by omega
    have n2 := show ¬ (r = 2) by omega
    have n3 := show ¬ (r = 3) by omega
    have n4 := show ¬ (r = 4) by omega
    have n5 := show ¬ (r = 5) by omega
    have n6 := show ¬ (r = 6) by omega
    go_enter Try.func38, Try.ntmps38
    go_wp2_with (refine (calls_to_ext (depIs_any _ _ false (by simp; omega) _)).mono ?_; rintro e w1 ⟨rfl, X, rfl⟩; have hX := X.size; simp only [World.size_alloc] at hX)
    exact bodyPost_ret (v := .agg #[.int .i64 a0, .int .i64 a1, .int .i64 a2, .int .i64 a3, .int .i64 a4, .int .i64 a5, .int .i64 a6]) (by simp [results, Try.results38, go_sem]) rfl ⟨by rw [HV.out]; simp [n0, n1, n2, n3, n4, n5, n6], by (repeat' (first | (with_reducible exact Below.refl _ _) | (with_reducible assumption) | (with_reducible refine Below.setCell ?_ ?_ _) | (with_reducible refine Below.alloc ?_ ?_ _) | (with_reducible refine Below.drew ?_) | (with_reducible refine below_drewN ?_ _) | (with_reducible refine Ext.grown _ ?_ ?_) | (with_reducible exact Nat.le_refl _) | omega | (simp only [World.size_alloc, World.size_setCell, World.size_drew]; omega) | (simp; omega) | (simp; done)))⟩

  · go_enter Try.func38, Try.ntmps38
    go_wp2_with (refine (calls_to_ext (depIs_any _ _ true (by simp) _)).mono ?_; rintro e w1 ⟨rfl, X, rfl⟩; have hX := X.size; simp only [World.size_alloc] at hX)
    go_still_tail 10, (by kernel_rfl)
    go_wp2
    exact bodyPost_ret (v := .agg #[.int .i64 (max a0 s), .int .i64 a1, .int .i64 a2, .int .i64 a3, .int .i64 a4, .int .i64 a5, .int .i64 a6]) (by simp [results, Try.results38, go_sem]) rfl ⟨by rw [HV.out]; simp <;> (try omega), by (repeat' (first | (with_reducible exact Below.refl _ _) | (with_reducible assumption) | (with_reducible refine Below.setCell ?_ ?_ _) | (with_reducible refine Below.alloc ?_ ?_ _) | (with_reducible refine Below.drew ?_) | (with_reducible refine below_drewN ?_ _) | (with_reducible refine Ext.grown _ ?_ ?_) | (with_reducible exact Nat.le_refl _) | omega | (simp only [World.size_alloc, World.size_setCell, World.size_drew]; omega) | (simp; omega) | (simp; done)))⟩
  · go_enter Try.func38, Try.ntmps38
    go_wp2_with (refine (calls_to_ext (depIs_any _ _ true (by simp) _)).mono ?_; rintro e w1 ⟨rfl, X, rfl⟩; have hX := X.size; simp only [World.size_alloc] at hX)
    go_still_tail 10, (by kernel_rfl)
    go_wp2
    exact bodyPost_ret (v := .agg #[.int .i64 a0, .int .i64 (max a1 s), .int .i64 a2, .int .i64 a3, .int .i64 a4, .int .i64 a5, .int .i64 a6]) (by simp [results, Try.results38, go_sem]) rfl ⟨by rw [HV.out]; simp <;> (try omega), by (repeat' (first | (with_reducible exact Below.refl _ _) | (with_reducible assumption) | (with_reducible refine Below.setCell ?_ ?_ _) | (with_reducible refine Below.alloc ?_ ?_ _) | (with_reducible refine Below.drew ?_) | (with_reducible refine below_drewN ?_ _) | (with_reducible refine Ext.grown _ ?_ ?_) | (with_reducible exact Nat.le_refl _) | omega | (simp only [World.size_alloc, World.size_setCell, World.size_drew]; omega) | (simp; omega) | (simp; done)))⟩
  · go_enter Try.func38, Try.ntmps38
    go_wp2_with (refine (calls_to_ext (depIs_any _ _ true (by simp) _)).mono ?_; rintro e w1 ⟨rfl, X, rfl⟩; have hX := X.size; simp only [World.size_alloc] at hX)
    go_still_tail 10, (by kernel_rfl)
    go_wp2
    exact bodyPost_ret (v := .agg #[.int .i64 a0, .int .i64 a1, .int .i64 (max a2 s), .int .i64 a3, .int .i64 a4, .int .i64 a5, .int .i64 a6]) (by simp [results, Try.results38, go_sem]) rfl ⟨by rw [HV.out]; simp <;> (try omega), by (repeat' (first | (with_reducible exact Below.refl _ _) | (with_reducible assumption) | (with_reducible refine Below.setCell ?_ ?_ _) | (with_reducible refine Below.alloc ?_ ?_ _) | (with_reducible refine Below.drew ?_) | (with_reducible refine below_drewN ?_ _) | (with_reducible refine Ext.grown _ ?_ ?_) | (with_reducible exact Nat.le_refl _) | omega | (simp only [World.size_alloc, World.size_setCell, World.size_drew]; omega) | (simp; omega) | (simp; done)))⟩
  · go_enter Try.func38, Try.ntmps38
    go_wp2_with (refine (calls_to_ext (depIs_any _ _ true (by simp) _)).mono ?_; rintro e w1 ⟨rfl, X, rfl⟩; have hX := X.size; simp only [World.size_alloc] at hX)
    go_still_tail 10, (by kernel_rfl)
    go_wp2
    exact bodyPost_ret (v := .agg #[.int .i64 a0, .int .i64 a1, .int .i64 a2, .int .i64 (max a3 s), .int .i64 a4, .int .i64 a5, .int .i64 a6]) (by simp [results, Try.results38, go_sem]) rfl ⟨by rw [HV.out]; simp <;> (try omega), by (repeat' (first | (with_reducible exact Below.refl _ _) | (with_reducible assumption) | (with_reducible refine Below.setCell ?_ ?_ _) | (with_reducible refine Below.alloc ?_ ?_ _) | (with_reducible refine Below.drew ?_) | (with_reducible refine below_drewN ?_ _) | (with_reducible refine Ext.grown _ ?_ ?_) | (with_reducible exact Nat.le_refl _) | omega | (simp only [World.size_alloc, World.size_setCell, World.size_drew]; omega) | (simp; omega) | (simp; done)))⟩
  · go_enter Try.func38, Try.ntmps38
    go_wp2_with (refine (calls_to_ext (depIs_any _ _ true (by simp) _)).mono ?_; rintro e w1 ⟨rfl, X, rfl⟩; have hX := X.size; simp only [World.size_alloc] at hX)
    go_still_tail 10, (by kernel_rfl)
    go_wp2
    exact bodyPost_ret (v := .agg #[.int .i64 a0, .int .i64 a1, .int .i64 a2, .int .i64 a3, .int .i64 (max a4 s), .int .i64 a5, .int .i64 a6]) (by simp [results, Try.results38, go_sem]) rfl ⟨by rw [HV.out]; simp <;> (try omega), by (repeat' (first | (with_reducible exact Below.refl _ _) | (with_reducible assumption) | (with_reducible refine Below.setCell ?_ ?_ _) | (with_reducible refine Below.alloc ?_ ?_ _) | (with_reducible refine Below.drew ?_) | (with_reducible refine below_drewN ?_ _) | (with_reducible refine Ext.grown _ ?_ ?_) | (with_reducible exact Nat.le_refl _) | omega | (simp only [World.size_alloc, World.size_setCell, World.size_drew]; omega) | (simp; omega) | (simp; done)))⟩
  · go_enter Try.func38, Try.ntmps38
    go_wp2_with (refine (calls_to_ext (depIs_any _ _ true (by simp) _)).mono ?_; rintro e w1 ⟨rfl, X, rfl⟩; have hX := X.size; simp only [World.size_alloc] at hX)
    go_still_tail 10, (by kernel_rfl)
    go_wp2
    exact bodyPost_ret (v := .agg #[.int .i64 a0, .int .i64 a1, .int .i64 a2, .int .i64 a3, .int .i64 a4, .int .i64 (max a5 s), .int .i64 a6]) (by simp [results, Try.results38, go_sem]) rfl ⟨by rw [HV.out]; simp <;> (try omega), by (repeat' (first | (with_reducible exact Below.refl _ _) | (with_reducible assumption) | (with_reducible refine Below.setCell ?_ ?_ _) | (with_reducible refine Below.alloc ?_ ?_ _) | (with_reducible refine Below.drew ?_) | (with_reducible refine below_drewN ?_ _) | (with_reducible refine Ext.grown _ ?_ ?_) | (with_reducible exact Nat.le_refl _) | omega | (simp only [World.size_alloc, World.size_setCell, World.size_drew]; omega) | (simp; omega) | (simp; done)))⟩
  · go_enter Try.func38, Try.ntmps38
    go_wp2_with (refine (calls_to_ext (depIs_any _ _ true (by simp) _)).mono ?_; rintro e w1 ⟨rfl, X, rfl⟩; have hX := X.size; simp only [World.size_alloc] at hX)
    go_still_tail 10, (by kernel_rfl)
    go_wp2
    exact bodyPost_ret (v := .agg #[.int .i64 a0, .int .i64 a1, .int .i64 a2, .int .i64 a3, .int .i64 a4, .int .i64 a5, .int .i64 (max a6 s)]) (by simp [results, Try.results38, go_sem]) rfl ⟨by rw [HV.out]; simp <;> (try omega), by (repeat' (first | (with_reducible exact Below.refl _ _) | (with_reducible assumption) | (with_reducible refine Below.setCell ?_ ?_ _) | (with_reducible refine Below.alloc ?_ ?_ _) | (with_reducible refine Below.drew ?_) | (with_reducible refine below_drewN ?_ _) | (with_reducible refine Ext.grown _ ?_ ?_) | (with_reducible exact Nat.le_refl _) | omega | (simp only [World.size_alloc, World.size_setCell, World.size_drew]; omega) | (simp; omega) | (simp; done)))⟩
end Go.Proofs.Ytklbmdakoeoplaa
end
section
namespace Go.Proofs.Ytklbmdakoeoplaa
open Go.RowKit
set_option linter.unusedSimpArgs false
set_option linter.unusedVariables false
set_option maxRecDepth 100000
attribute [local go_sem] eqDeps max2_int max_two min2_int min_two idxDeps Ext.cell Ext.frozen Ext.cell_set szlt1 szlt2 szlt3 szlt4 szlt5 szlt6

set_option maxHeartbeats 1000000 in
theorem rOver_any (a0 a1 a2 a3 a4 a5 a6 b0 b1 b2 b3 b4 b5 b6 : Int) (w : World) :
    Calls Try.prog 23 #[.agg #[.int .i64 a0, .int .i64 a1, .int .i64 a2, .int .i64 a3, .int .i64 a4, .int .i64 a5, .int .i64 a6], .agg #[.int .i64 b0, .int .i64 b1, .int .i64 b2, .int .i64 b3, .int .i64 b4, .int .i64 b5, .int .i64 b6]] w fun e w' => e = .returned (.bool (decide (b0 ≤ a0 ∧ b1 ≤ a1 ∧ b2 ≤ a2 ∧ b3 ≤ a3 ∧ b4 ≤ a4 ∧ b5 ≤ a5 ∧ b6 ≤ a6))) ∧ Below w.heap.size w w' := by
  go_enter Try.func23, Try.ntmps23
  go_wp2
  refine wp_loop_rounds 8 ?_
  repeat any_goals (rw [rounds_succ]; go_wp2; (try (go_quiet (fail); go_wp2)))
  all_goals
    go_ret
    exact ⟨ret_bool (by rw [Bool.eq_iff_iff]; simp; omega), by (repeat' (first | (with_reducible exact Below.refl _ _) | (with_reducible assumption) | (with_reducible refine Below.setCell ?_ ?_ _) | (with_reducible refine Below.alloc ?_ ?_ _) | (with_reducible refine Below.drew ?_) | (with_reducible refine below_drewN ?_ _) | (with_reducible refine Ext.grown _ ?_ ?_) | (with_reducible exact Nat.le_refl _) | omega | (simp only [World.size_alloc, World.size_setCell, World.size_drew]; omega) | (simp; omega) | (simp; done)))⟩

set_option maxHeartbeats 8000000 in
theorem rHas_any (a0 a1 a2 a3 a4 a5 a6 r s : Int) (w : World) :
    Calls Try.prog 27 #[.agg #[.int .i64 a0, .int .i64 a1, .int .i64 a2, .int .i64 a3, .int .i64 a4, .int .i64 a5, .int .i64 a6], .agg #[.int .i64 r, .int .i64 s]] w fun e w' => e = .returned (.bool (decide (0 ≤ r ∧ r < 7 ∧ 1 ≤ s ∧ s ≤ at7 a0 a1 a2 a3 a4 a5 a6 r))) ∧ Below w.heap.size w w' := by
  rcases rep_cases r with rfl | rfl | rfl | rfl | rfl | rfl | rfl | hr
  case' inr.inr.inr.inr.inr.inr.inr =>
    have e0 : decide (r = 0) = false := decide_eq_false (by omega)
    have g0 : (r == 0) = false := beq_eq_false_iff_ne.2 (by omega)
    have e1 : decide (r = 1) = false := decide_eq_false (by omega)
    have g1 : (r == 1) = false := beq_eq_false_iff_ne.2 (by omega)
    have e2 : decide (r = 2) = false := decide_eq_false (by omega)
    have g2 : (r == 2) = false := beq_eq_false_iff_ne.2 (by omega)
    have e3 : decide (r = 3) = false := decide_eq_false (by omega)
    have g3 : (r == 3) = false := beq_eq_false_iff_ne.2 (by omega)
    have e4 : decide (r = 4) = false := decide_eq_false (by omega)
    have g4 : (r == 4) = false := beq_eq_false_iff_ne.2 (by omega)
    have e5 : decide (r = 5) = false := decide_eq_false (by omega)
    have g5 : (r == 5) = false := beq_eq_false_iff_ne.2 (by omega)
    have e6 : decide (r = 6) = false := decide_eq_false (by omega)
    have g6 : (r == 6) = false := beq_eq_false_iff_ne.2 (by omega)
    go_enter Try.func27, Try.ntmps27
    go_wp2
    refine wp_loop_rounds 8 ?_
    repeat any_goals (rw [rounds_succ]; go_wp2; (try (go_quiet (fail); go_wp2)))
    go_ret
    exact ⟨ret_bool (by simp; omega), by (repeat' (first | (with_reducible exact Below.refl _ _) | (with_reducible assumption) | (with_reducible refine Below.setCell ?_ ?_ _) | (with_reducible refine Below.alloc ?_ ?_ _) | (with_reducible refine Below.drew ?_) | (with_reducible refine below_drewN ?_ _) | (with_reducible refine Ext.grown _ ?_ ?_) | (with_reducible exact Nat.le_refl _) | omega | (simp only [World.size_alloc, World.size_setCell, World.size_drew]; omega) | (simp; omega) | (simp; done)))⟩
  all_goals
    by_cases hs : 0 < s
    all_goals
      have hsb := hs
      first
        | replace hsb : decide (0 < s) = true := decide_eq_true hs
        | replace hsb : decide (0 < s) = false := decide_eq_false hs
      go_enter Try.func27, Try.ntmps27
      go_wp2
      refine wp_loop_rounds 8 ?_
      repeat any_goals (rw [rounds_succ]; go_wp2; (try (go_quiet (fail); go_wp2)))
      all_goals
        go_ret
        exact ⟨ret_bool (by rw [Bool.eq_iff_iff]; simp [at7] <;> (try omega)), by (repeat' (first | (with_reducible exact Below.refl _ _) | (with_reducible assumption) | (with_reducible refine Below.setCell ?_ ?_ _) | (with_reducible refine Below.alloc ?_ ?_ _) | (with_reducible refine Below.drew ?_) | (with_reducible refine below_drewN ?_ _) | (with_reducible refine Ext.grown _ ?_ ?_) | (with_reducible exact Nat.le_refl _) | omega | (simp only [World.size_alloc, World.size_setCell, World.size_drew]; omega) | (simp; omega) | (simp; done)))⟩

set_option maxHeartbeats 8000000 in
theorem rWith_any (a0 a1 a2 a3 a4 a5 a6 r s : Int) (v : Value) (hv : v = .agg #[.int .i64 (if r = 0 then max a0 s else a0), .int .i64 (if r = 1 then max a1 s else a1), .int .i64 (if r = 2 then max a2 s else a2), .int .i64 (if r = 3 then max a3 s else a3), .int .i64 (if r = 4 then max a4 s else a4), .int .i64 (if r = 5 then max a5 s else a5), .int .i64 (if r = 6 then max a6 s else a6)]) (w : World) :
    Calls Try.prog 39 #[.agg #[.int .i64 a0, .int .i64 a1, .int .i64 a2, .int .i64 a3, .int .i64 a4, .int .i64 a5, .int .i64 a6], .agg #[.int .i64 r, .int .i64 s]] w fun e w' => e = .returned v ∧ Below w.heap.size w w' := by
  have HV := Lib.hid hv
  clear hv
  rcases rep_cases r with rfl | rfl | rfl | rfl | rfl | rfl | rfl | hr
  case' inr.inr.inr.inr.inr.inr.inr =>
    have e0 : decide (r = 0) = false := decide_eq_false (by omega)
    have g0 : (r == 0) = false := beq_eq_false_iff_ne.2 (by omega)
    have e1 : decide (r = 1) = false := decide_eq_false (by omega)
    have g1 : (r == 1) = false := beq_eq_false_iff_ne.2 (by omega)
    have e2 : decide (r = 2) = false := decide_eq_false (by omega)
    have g2 : (r == 2) = false := beq_eq_false_iff_ne.2 (by omega)
    have e3 : decide (r = 3) = false := decide_eq_false (by omega)
    have g3 : (r == 3) = false := beq_eq_false_iff_ne.2 (by omega)
    have e4 : decide (r = 4) = false := decide_eq_false (by omega)
    have g4 : (r == 4) = false := beq_eq_false_iff_ne.2 (by omega)
    have e5 : decide (r = 5) = false := decide_eq_false (by omega)
    have g5 : (r == 5) = false := beq_eq_false_iff_ne.2 (by omega)
    have e6 : decide (r = 6) = false := decide_eq_false (by omega)
    have g6 : (r == 6) = false := beq_eq_false_iff_ne.2 (by omega)
    have n0 := show ¬ (r = 0) by omega
    have n1 := show ¬ (r = 1) by omega
    have n2 := show ¬ (r = 2) by omega
    have n3 := show ¬ (r = 3) by omega
    have n4 := show ¬ (r = 4) by omega
    have n5 := show ¬ (r = 5) by omega
    have n6 := show ¬ (r = 6) by omega
    go_enter Try.func39, Try.ntmps39
    go_wp2
    refine wp_loop_rounds 8 ?_
    repeat any_goals (rw [rounds_succ]; go_wp2; (try (go_quiet (fail); go_wp2)))
    exact bodyPost_ret (v := .agg #[.int .i64 a0, .int .i64 a1, .int .i64 a2, .int .i64 a3, .int .i64 a4, .int .i64 a5, .int .i64 a6]) (by simp [results, Try.results39, go_sem]) rfl ⟨by rw [HV.out]; simp [n0, n1, n2, n3, n4, n5, n6], by (repeat' (first | (with_reducible exact Below.refl _ _) | (with_reducible assumption) | (with_reducible refine Below.setCell ?_ ?_ _) | (with_reducible refine Below.alloc ?_ ?_ _) | (with_reducible refine Below.drew ?_) | (with_reducible refine below_drewN ?_ _) | (with_reducible refine Ext.grown _ ?_ ?_) | (with_reducible exact Nat.le_refl _) | omega | (simp only [World.size_alloc, World.size_setCell, World.size_drew]; omega) | (simp; omega) | (simp; done)))⟩

  · go_enter Try.func39, Try.ntmps39
    go_wp2
    refine wp_loop_rounds 8 ?_
    repeat any_goals (rw [rounds_succ]; go_wp2; (try (go_quiet (fail); go_wp2)))
    all_goals first
      | (refine bodyPost_ret (v := .agg #[.int .i64 s, .int .i64 a1, .int .i64 a2, .int .i64 a3, .int .i64 a4, .int .i64 a5, .int .i64 a6]) ?ca rfl ⟨?cb, ?cc⟩; (case ca => simp [results, Try.results39, go_sem]); (case cb => (rw [HV.out]; simp <;> omega)); (case cc => (repeat' (first | (with_reducible exact Below.refl _ _) | (with_reducible assumption) | (with_reducible refine Below.setCell ?_ ?_ _) | (with_reducible refine Below.alloc ?_ ?_ _) | (with_reducible refine Below.drew ?_) | (with_reducible refine below_drewN ?_ _) | (with_reducible refine Ext.grown _ ?_ ?_) | (with_reducible exact Nat.le_refl _) | omega | (simp only [World.size_alloc, World.size_setCell, World.size_drew]; omega) | (simp; omega) | (simp; done)))))
      | (refine bodyPost_ret (v := .agg #[.int .i64 a0, .int .i64 a1, .int .i64 a2, .int .i64 a3, .int .i64 a4, .int .i64 a5, .int .i64 a6]) ?ca rfl ⟨?cb, ?cc⟩; (case ca => simp [results, Try.results39, go_sem]); (case cb => (rw [HV.out]; simp <;> omega)); (case cc => (repeat' (first | (with_reducible exact Below.refl _ _) | (with_reducible assumption) | (with_reducible refine Below.setCell ?_ ?_ _) | (with_reducible refine Below.alloc ?_ ?_ _) | (with_reducible refine Below.drew ?_) | (with_reducible refine below_drewN ?_ _) | (with_reducible refine Ext.grown _ ?_ ?_) | (with_reducible exact Nat.le_refl _) | omega | (simp only [World.size_alloc, World.size_setCell, World.size_drew]; omega) | (simp; omega) | (simp; done)))))
  · go_enter Try.func39, Try.ntmps39
    go_wp2
    refine wp_loop_rounds 8 ?_
    repeat any_goals (rw [rounds_succ]; go_wp2; (try (go_quiet (fail); go_wp2)))
    all_goals first
      | (refine bodyPost_ret (v := .agg #[.int .i64 a0, .int .i64 s, .int .i64 a2, .int .i64 a3, .int .i64 a4, .int .i64 a5, .int .i64 a6]) ?ca rfl ⟨?cb, ?cc⟩; (case ca => simp [results, Try.results39, go_sem]); (case cb => (rw [HV.out]; simp <;> omega)); (case cc => (repeat' (first | (with_reducible exact Below.refl _ _) | (with_reducible assumption) | (with_reducible refine Below.setCell ?_ ?_ _) | (with_reducible refine Below.alloc ?_ ?_ _) | (with_reducible refine Below.drew ?_) | (with_reducible refine below_drewN ?_ _) | (with_reducible refine Ext.grown _ ?_ ?_) | (with_reducible exact Nat.le_refl _) | omega | (simp only [World.size_alloc, World.size_setCell, World.size_drew]; omega) | (simp; omega) | (simp; done)))))
      | (refine bodyPost_ret (v := .agg #[.int .i64 a0, .int .i64 a1, .int .i64 a2, .int .i64 a3, .int .i64 a4, .int .i64 a5, .int .i64 a6]) ?ca rfl ⟨?cb, ?cc⟩; (case ca => simp [results, Try.results39, go_sem]); (case cb => (rw [HV.out]; simp <;> omega)); (case cc => (repeat' (first | (with_reducible exact Below.refl _ _) | (with_reducible assumption) | (with_reducible refine Below.setCell ?_ ?_ _) | (with_reducible refine Below.alloc ?_ ?_ _) | (with_reducible refine Below.drew ?_) | (with_reducible refine below_drewN ?_ _) | (with_reducible refine Ext.grown _ ?_ ?_) | (with_reducible exact Nat.le_refl _) | omega | (simp only [World.size_alloc, World.size_setCell, World.size_drew]; omega) | (simp; omega) | (simp; done)))))
  · go_enter Try.func39, Try.ntmps39
    go_wp2
    refine wp_loop_rounds 8 ?_
    repeat any_goals (rw [rounds_succ]; go_wp2; (try (go_quiet (fail); go_wp2)))
    all_goals first
      | (refine bodyPost_ret (v := .agg #[.int .i64 a0, .int .i64 a1, .int .i64 s, .int .i64 a3, .int .i64 a4, .int .i64 a5, .int .i64 a6]) ?ca rfl ⟨?cb, ?cc⟩; (case ca => simp [results, Try.results39, go_sem]); (case cb => (rw [HV.out]; simp <;> omega)); (case cc => (repeat' (first | (with_reducible exact Below.refl _ _) | (with_reducible assumption) | (with_reducible refine Below.setCell ?_ ?_ _) | (with_reducible refine Below.alloc ?_ ?_ _) | (with_reducible refine Below.drew ?_) | (with_reducible refine below_drewN ?_ _) | (with_reducible refine Ext.grown _ ?_ ?_) | (with_reducible exact Nat.le_refl _) | omega | (simp only [World.size_alloc, World.size_setCell, World.size_drew]; omega) | (simp; omega) | (simp; done)))))
      | (refine bodyPost_ret (v := .agg #[.int .i64 a0, .int .i64 a1, .int .i64 a2, .int .i64 a3, .int .i64 a4, .int .i64 a5, .int .i64 a6]) ?ca rfl ⟨?cb, ?cc⟩; (case ca => simp [results, Try.results39, go_sem]); (case cb => (rw [HV.out]; simp <;> omega)); (case cc => (repeat' (first | (with_reducible exact Below.refl _ _) | (with_reducible assumption) | (with_reducible refine Below.setCell ?_ ?_ _) | (with_reducible refine Below.alloc ?_ ?_ _) | (with_reducible refine Below.drew ?_) | (with_reducible refine below_drewN ?_ _) | (with_reducible refine Ext.grown _ ?_ ?_) | (with_reducible exact Nat.le_refl _) | omega | (simp only [World.size_alloc, World.size_setCell, World.size_drew]; omega) | (simp; omega) | (simp; done)))))
  · go_enter Try.func39, Try.ntmps39
    go_wp2
    refine wp_loop_rounds 8 ?_
    repeat any_goals (rw [rounds_succ]; go_wp2; (try (go_quiet (fail); go_wp2)))
    all_goals first
      | (refine bodyPost_ret (v := .agg #[.int .i64 a0, .int .i64 a1, .int .i64 a2, .int .i64 s, .int .i64 a4, .int .i64 a5, .int .i64 a6]) ?ca rfl ⟨?cb, ?cc⟩; (case ca => simp [results, Try.results39, go_sem]); (case cb => (rw [HV.out]; simp <;> omega)); (case cc => (repeat' (first | (with_reducible exact Below.refl _ _) | (with_reducible assumption) | (with_reducible refine Below.setCell ?_ ?_ _) | (with_reducible refine Below.alloc ?_ ?_ _) | (with_reducible refine Below.drew ?_) | (with_reducible refine below_drewN ?_ _) | (with_reducible refine Ext.grown _ ?_ ?_) | (with_reducible exact Nat.le_refl _) | omega | (simp only [World.size_alloc, World.size_setCell, World.size_drew]; omega) | (simp; omega) | (simp; done)))))
      | (refine bodyPost_ret (v := .agg #[.int .i64 a0, .int .i64 a1, .int .i64 a2, .int .i64 a3, .int .i64 a4, .int .i64 a5, .int .i64 a6]) ?ca rfl ⟨?cb, ?cc⟩; (case ca => simp [results, Try.results39, go_sem]); (case cb => (rw [HV.out]; simp <;> omega)); (case cc => (repeat' (first | (with_reducible exact Below.refl _ _) | (with_reducible assumption) | (with_reducible refine Below.setCell ?_ ?_ _) | (with_reducible refine Below.alloc ?_ ?_ _) | (with_reducible refine Below.drew ?_) | (with_reducible refine below_drewN ?_ _) | (with_reducible refine Ext.grown _ ?_ ?_) | (with_reducible exact Nat.le_refl _) | omega | (simp only [World.size_alloc, World.size_setCell, World.size_drew]; omega) | (simp; omega) | (simp; done)))))
  · go_enter Try.func39, Try.ntmps39
    go_wp2
    refine wp_loop_rounds 8 ?_
    repeat any_goals (rw [rounds_succ]; go_wp2; (try (go_quiet (fail); go_wp2)))
    all_goals first
      | (refine bodyPost_ret (v := .agg #[.int .i64 a0, .int .i64 a1, .int .i64 a2, .int .i64 a3, .int .i64 s, .int .i64 a5, .int .i64 a6]) ?ca rfl ⟨?cb, ?cc⟩; (case ca => simp [results, Try.results39, go_sem]); (case cb => (rw [HV.out]; simp <;> omega)); (case cc => (repeat' (first | (with_reducible exact Below.refl _ _) | (with_reducible assumption) | (with_reducible refine Below.setCell ?_ ?_ _) | (with_reducible refine Below.alloc ?_ ?_ _) | (with_reducible refine Below.drew ?_) | (with_reducible refine below_drewN ?_ _) | (with_reducible refine Ext.grown _ ?_ ?_) | (with_reducible exact Nat.le_refl _) | omega | (simp only [World.size_alloc, World.size_setCell, World.size_drew]; omega) | (simp; omega) | (simp; done)))))
      | (refine bodyPost_ret (v := .agg #[.int .i64 a0, .int .i64 a1, .int .i64 a2, .int .i64 a3, .int .i64 a4, .int .i64 a5, .int .i64 a6]) ?ca rfl ⟨?cb, ?cc⟩; (case ca => simp [results, Try.results39, go_sem]); (case cb => (rw [HV.out]; simp <;> omega)); (case cc => (repeat' (first | (with_reducible exact Below.refl _ _) | (with_reducible assumption) | (with_reducible refine Below.setCell ?_ ?_ _) | (with_reducible refine Below.alloc ?_ ?_ _) | (with_reducible refine Below.drew ?_) | (with_reducible refine below_drewN ?_ _) | (with_reducible refine Ext.grown _ ?_ ?_) | (with_reducible exact Nat.le_refl _) | omega | (simp only [World.size_alloc, World.size_setCell, World.size_drew]; omega) | (simp; omega) | (simp; done)))))
  · go_enter Try.func39, Try.ntmps39
    go_wp2
    refine wp_loop_rounds 8 ?_
    repeat any_goals (rw [rounds_succ]; go_wp2; (try (go_quiet (fail); go_wp2)))
    all_goals first
      | (refine bodyPost_ret (v := .agg #[.int .i64 a0, .int .i64 a1, .int .i64 a2, .int .i64 a3, .int .i64 a4, .int .i64 s, .int .i64 a6]) ?ca rfl ⟨?cb, ?cc⟩; (case ca => simp [results, Try.results39, go_sem]); (case cb => (rw [HV.out]; simp <;> omega)); (case cc => (repeat' (first | (with_reducible exact Below.refl _ _) | (with_reducible assumption) | (with_reducible refine Below.setCell ?_ ?_ _) | (with_reducible refine Below.alloc ?_ ?_ _) | (with_reducible refine Below.drew ?_) | (with_reducible refine below_drewN ?_ _) | (with_reducible refine Ext.grown _ ?_ ?_) | (with_reducible exact Nat.le_refl _) | omega | (simp only [World.size_alloc, World.size_setCell, World.size_drew]; omega) | (simp; omega) | (simp; done)))))
      | (refine bodyPost_ret (v := .agg #[.int .i64 a0, .int .i64 a1, .int .i64 a2, .int .i64 a3, .int .i64 a4, .int .i64 a5, .int .i64 a6]) ?ca rfl ⟨?cb, ?cc⟩; (case ca => simp [results, Try.results39, go_sem]); (case cb => (rw [HV.out]; simp <;> omega)); (case cc => (repeat' (first | (with_reducible exact Below.refl _ _) | (with_reducible assumption) | (with_reducible refine Below.setCell ?_ ?_ _) | (with_reducible refine Below.alloc ?_ ?_ _) | (with_reducible refine Below.drew ?_) | (with_reducible refine below_drewN ?_ _) | (with_reducible refine Ext.grown _ ?_ ?_) | (with_reducible exact Nat.le_refl _) | omega | (simp only [World.size_alloc, World.size_setCell, World.size_drew]; omega) | (simp; omega) | (simp; done)))))
  · go_enter Try.func39, Try.ntmps39
    go_wp2
    refine wp_loop_rounds 8 ?_
    repeat any_goals (rw [rounds_succ]; go_wp2; (try (go_quiet (fail); go_wp2)))
    all_goals first
      | (refine bodyPost_ret (v := .agg #[.int .i64 a0, .int .i64 a1, .int .i64 a2, .int .i64 a3, .int .i64 a4, .int .i64 a5, .int .i64 s]) ?ca rfl ⟨?cb, ?cc⟩; (case ca => simp [results, Try.results39, go_sem]); (case cb => (rw [HV.out]; simp <;> omega)); (case cc => (repeat' (first | (with_reducible exact Below.refl _ _) | (with_reducible assumption) | (with_reducible refine Below.setCell ?_ ?_ _) | (with_reducible refine Below.alloc ?_ ?_ _) | (with_reducible refine Below.drew ?_) | (with_reducible refine below_drewN ?_ _) | (with_reducible refine Ext.grown _ ?_ ?_) | (with_reducible exact Nat.le_refl _) | omega | (simp only [World.size_alloc, World.size_setCell, World.size_drew]; omega) | (simp; omega) | (simp; done)))))
      | (refine bodyPost_ret (v := .agg #[.int .i64 a0, .int .i64 a1, .int .i64 a2, .int .i64 a3, .int .i64 a4, .int .i64 a5, .int .i64 a6]) ?ca rfl ⟨?cb, ?cc⟩; (case ca => simp [results, Try.results39, go_sem]); (case cb => (rw [HV.out]; simp <;> omega)); (case cc => (repeat' (first | (with_reducible exact Below.refl _ _) | (with_reducible assumption) | (with_reducible refine Below.setCell ?_ ?_ _) | (with_reducible refine Below.alloc ?_ ?_ _) | (with_reducible refine Below.drew ?_) | (with_reducible refine below_drewN ?_ _) | (with_reducible refine Ext.grown _ ?_ ?_) | (with_reducible exact Nat.le_refl _) | omega | (simp only [World.size_alloc, World.size_setCell, World.size_drew]; omega) | (simp; omega) | (simp; done)))))
end Go.Proofs.Ytklbmdakoeoplaa
end
section
namespace Go.Proofs.Ytklbmdakoeoplaa.X
open Go.RowKit Go.Proofs.Ytklbmdakoeoplaa Go.Proofs.YtklbmdakoeoplaaW.PrintWords Go.Proofs.YtklbmdakoeoplaaW.PrintLast Go.Proofs.YtklbmdakoeoplaaW.PrintMore
set_option linter.unusedVariables false
def deps_With.f (a0_0 : Int) (a0_1 : Int) (a0_2 : Int) (a0_3 : Int) (a0_4 : Int) (a0_5 : Int) (a0_6 : Int) (a1_0 : Int) (a1_1 : Int) : Option (Int × Int × Int × Int × Int × Int × Int) := some (if a1_0 = 0 then max a0_0 a1_1 else a0_0, if a1_0 = 1 then max a0_1 a1_1 else a0_1, if a1_0 = 2 then max a0_2 a1_1 else a0_2, if a1_0 = 3 then max a0_3 a1_1 else a0_3, if a1_0 = 4 then max a0_4 a1_1 else a0_4, if a1_0 = 5 then max a0_5 a1_1 else a0_5, if a1_0 = 6 then max a0_6 a1_1 else a0_6)
theorem deps_With.calls (a0_0 : Int) (a0_1 : Int) (a0_2 : Int) (a0_3 : Int) (a0_4 : Int) (a0_5 : Int) (a0_6 : Int) (a1_0 : Int) (a1_1 : Int) (r1 : Int) (r2 : Int) (r3 : Int) (r4 : Int) (r5 : Int) (r6 : Int) (r7 : Int) (w : World) (h : deps_With.f a0_0 a0_1 a0_2 a0_3 a0_4 a0_5 a0_6 a1_0 a1_1 = some (r1, r2, r3, r4, r5, r6, r7)) :
    Calls Try.prog 38 #[.agg #[.int .i64 a0_0, .int .i64 a0_1, .int .i64 a0_2, .int .i64 a0_3, .int .i64 a0_4, .int .i64 a0_5, .int .i64 a0_6], .agg #[.int .i64 a1_0, .int .i64 a1_1]] w fun e w' => e = .returned (.agg #[.int .i64 r1, .int .i64 r2, .int .i64 r3, .int .i64 r4, .int .i64 r5, .int .i64 r6, .int .i64 r7]) ∧ Below w.heap.size w w' := by
  unfold deps_With.f at h
  simp only [Option.some.injEq, Prod.mk.injEq] at h
  obtain ⟨rfl, rfl, rfl, rfl, rfl, rfl, rfl⟩ := h
  exact With_any a0_0 a0_1 a0_2 a0_3 a0_4 a0_5 a0_6 a1_0 a1_1 _ rfl w
def althingref03_With.f (a0_0 : Int) (a0_1 : Int) (a0_2 : Int) (a0_3 : Int) (a0_4 : Int) (a0_5 : Int) (a0_6 : Int) (a1_0 : Int) (a1_1 : Int) : Option (Int × Int × Int × Int × Int × Int × Int) := some (if a1_0 = 0 then max a0_0 a1_1 else a0_0, if a1_0 = 1 then max a0_1 a1_1 else a0_1, if a1_0 = 2 then max a0_2 a1_1 else a0_2, if a1_0 = 3 then max a0_3 a1_1 else a0_3, if a1_0 = 4 then max a0_4 a1_1 else a0_4, if a1_0 = 5 then max a0_5 a1_1 else a0_5, if a1_0 = 6 then max a0_6 a1_1 else a0_6)
theorem althingref03_With.calls (a0_0 : Int) (a0_1 : Int) (a0_2 : Int) (a0_3 : Int) (a0_4 : Int) (a0_5 : Int) (a0_6 : Int) (a1_0 : Int) (a1_1 : Int) (r1 : Int) (r2 : Int) (r3 : Int) (r4 : Int) (r5 : Int) (r6 : Int) (r7 : Int) (w : World) (h : althingref03_With.f a0_0 a0_1 a0_2 a0_3 a0_4 a0_5 a0_6 a1_0 a1_1 = some (r1, r2, r3, r4, r5, r6, r7)) :
    Calls Try.prog 39 #[.agg #[.int .i64 a0_0, .int .i64 a0_1, .int .i64 a0_2, .int .i64 a0_3, .int .i64 a0_4, .int .i64 a0_5, .int .i64 a0_6], .agg #[.int .i64 a1_0, .int .i64 a1_1]] w fun e w' => e = .returned (.agg #[.int .i64 r1, .int .i64 r2, .int .i64 r3, .int .i64 r4, .int .i64 r5, .int .i64 r6, .int .i64 r7]) ∧ Below w.heap.size w w' := by
  unfold althingref03_With.f at h
  simp only [Option.some.injEq, Prod.mk.injEq] at h
  obtain ⟨rfl, rfl, rfl, rfl, rfl, rfl, rfl⟩ := h
  exact rWith_any a0_0 a0_1 a0_2 a0_3 a0_4 a0_5 a0_6 a1_0 a1_1 _ rfl w
def deps_Has.f (a0_0 : Int) (a0_1 : Int) (a0_2 : Int) (a0_3 : Int) (a0_4 : Int) (a0_5 : Int) (a0_6 : Int) (a1_0 : Int) (a1_1 : Int) : Option Bool := some (decide (0 ≤ a1_0 ∧ a1_0 < 7 ∧ 1 ≤ a1_1 ∧ a1_1 ≤ at7 a0_0 a0_1 a0_2 a0_3 a0_4 a0_5 a0_6 a1_0))
theorem deps_Has.calls (a0_0 : Int) (a0_1 : Int) (a0_2 : Int) (a0_3 : Int) (a0_4 : Int) (a0_5 : Int) (a0_6 : Int) (a1_0 : Int) (a1_1 : Int) (r : Bool) (w : World) (h : deps_Has.f a0_0 a0_1 a0_2 a0_3 a0_4 a0_5 a0_6 a1_0 a1_1 = some r) :
    Calls Try.prog 42 #[.agg #[.int .i64 a0_0, .int .i64 a0_1, .int .i64 a0_2, .int .i64 a0_3, .int .i64 a0_4, .int .i64 a0_5, .int .i64 a0_6], .agg #[.int .i64 a1_0, .int .i64 a1_1]] w fun e w' => e = .returned (.bool r) ∧ Below w.heap.size w w' := by
  obtain rfl := Option.some.inj h
  exact Has_any a0_0 a0_1 a0_2 a0_3 a0_4 a0_5 a0_6 a1_0 a1_1 w
def althingref03_Has.f (a0_0 : Int) (a0_1 : Int) (a0_2 : Int) (a0_3 : Int) (a0_4 : Int) (a0_5 : Int) (a0_6 : Int) (a1_0 : Int) (a1_1 : Int) : Option Bool := some (decide (0 ≤ a1_0 ∧ a1_0 < 7 ∧ 1 ≤ a1_1 ∧ a1_1 ≤ at7 a0_0 a0_1 a0_2 a0_3 a0_4 a0_5 a0_6 a1_0))
theorem althingref03_Has.calls (a0_0 : Int) (a0_1 : Int) (a0_2 : Int) (a0_3 : Int) (a0_4 : Int) (a0_5 : Int) (a0_6 : Int) (a1_0 : Int) (a1_1 : Int) (r : Bool) (w : World) (h : althingref03_Has.f a0_0 a0_1 a0_2 a0_3 a0_4 a0_5 a0_6 a1_0 a1_1 = some r) :
    Calls Try.prog 27 #[.agg #[.int .i64 a0_0, .int .i64 a0_1, .int .i64 a0_2, .int .i64 a0_3, .int .i64 a0_4, .int .i64 a0_5, .int .i64 a0_6], .agg #[.int .i64 a1_0, .int .i64 a1_1]] w fun e w' => e = .returned (.bool r) ∧ Below w.heap.size w w' := by
  obtain rfl := Option.some.inj h
  exact rHas_any a0_0 a0_1 a0_2 a0_3 a0_4 a0_5 a0_6 a1_0 a1_1 w
def althingref03_Over.f (a0_0 : Int) (a0_1 : Int) (a0_2 : Int) (a0_3 : Int) (a0_4 : Int) (a0_5 : Int) (a0_6 : Int) (a1_0 : Int) (a1_1 : Int) (a1_2 : Int) (a1_3 : Int) (a1_4 : Int) (a1_5 : Int) (a1_6 : Int) : Option Bool := some (decide (a1_0 ≤ a0_0 ∧ a1_1 ≤ a0_1 ∧ a1_2 ≤ a0_2 ∧ a1_3 ≤ a0_3 ∧ a1_4 ≤ a0_4 ∧ a1_5 ≤ a0_5 ∧ a1_6 ≤ a0_6))
theorem althingref03_Over.calls (a0_0 : Int) (a0_1 : Int) (a0_2 : Int) (a0_3 : Int) (a0_4 : Int) (a0_5 : Int) (a0_6 : Int) (a1_0 : Int) (a1_1 : Int) (a1_2 : Int) (a1_3 : Int) (a1_4 : Int) (a1_5 : Int) (a1_6 : Int) (r : Bool) (w : World) (h : althingref03_Over.f a0_0 a0_1 a0_2 a0_3 a0_4 a0_5 a0_6 a1_0 a1_1 a1_2 a1_3 a1_4 a1_5 a1_6 = some r) :
    Calls Try.prog 23 #[.agg #[.int .i64 a0_0, .int .i64 a0_1, .int .i64 a0_2, .int .i64 a0_3, .int .i64 a0_4, .int .i64 a0_5, .int .i64 a0_6], .agg #[.int .i64 a1_0, .int .i64 a1_1, .int .i64 a1_2, .int .i64 a1_3, .int .i64 a1_4, .int .i64 a1_5, .int .i64 a1_6]] w fun e w' => e = .returned (.bool r) ∧ Below w.heap.size w w' := by
  obtain rfl := Option.some.inj h
  exact rOver_any a0_0 a0_1 a0_2 a0_3 a0_4 a0_5 a0_6 a1_0 a1_1 a1_2 a1_3 a1_4 a1_5 a1_6 w
end Go.Proofs.Ytklbmdakoeoplaa.X
end
section
namespace Go.Proofs.Ytklbmdakoeoplaa.X
open Go.RowKit Go.Proofs.YtklbmdakoeoplaaW.PrintWords Go.Proofs.YtklbmdakoeoplaaW.PrintLast Go.Proofs.YtklbmdakoeoplaaW.PrintMore
/-- Cell i of block g holds x; no cell of the block is frozen. -/
def CapC (w : World) (g i : Nat) (x : Value) : Prop := ∃ (cs : Array Value) (t : TypeId), w.heap[g]? = some (.cells cs t (0, 0)) ∧ cs[i]? = some x
theorem CapC.mk {w : World} {g i : Nat} {x : Value} {cs : Array Value} {t : TypeId} (h : w.heap[g]? = some (.cells cs t (0, 0))) (hx : cs[i]? = some x) : CapC w g i x := ⟨cs, t, h, hx⟩
theorem CapC.cell {w : World} {g i : Nat} {x : Value} (h : CapC w g i x) : w.cell? ⟨g, i, none⟩ = some x := by
  obtain ⟨cs, t, h, hx⟩ := h
  exact (blk_cell h i).trans hx
theorem CapC.frozen {w : World} {g i : Nat} {x : Value} (h : CapC w g i x) : w.frozen? ⟨g, i, none⟩ = false := by
  obtain ⟨cs, t, h, hx⟩ := h
  exact blk_frozen h i
theorem CapC.below {w w1 : World} {g i : Nat} {x : Value} (h : CapC w g i x) (hb : Below w.heap.size w w1) : CapC w1 g i x := by
  obtain ⟨cs, t, h, hx⟩ := h
  exact ⟨cs, t, blk_below h hb, hx⟩
end Go.Proofs.Ytklbmdakoeoplaa.X
end
