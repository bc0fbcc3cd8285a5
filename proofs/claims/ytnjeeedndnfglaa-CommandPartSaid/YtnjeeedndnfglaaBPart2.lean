/- What the claim Part leans on: texts joined by bundle.py, a program of ours; the words cut down to what is used. -/
import Derived.Test.YtnjeeedndnfglaaBPart1
import Derived.Test.YtnjeeedndnfglaaProg
import Derived.Below
import Derived.Deep.Draws
import Derived.Deep.AppendLies
import Derived.Maps.AppendAt
import Derived.OwnWalk
import Derived.Laws.BytesArg
import Derived.Laws.MakeOwn
import Derived.Laws.OwnMore
import Derived.Deep.OwnRows
import Derived.Tactics
import Derived.Lib.ConvBytes
import Derived.Laws.Slices
import Derived.WalkKit
import Derived.KernelRfl
import Derived.RowKit3
import Derived.Deep.LoopGhost
import Derived.Deep.QuietTactic
import Derived.BigQuiet
import Derived.WideLaws
import Derived.Deep.DeepCutAuto
import Derived.Deep.CutBlock
import Derived.Deep.RegionHeld3
import Derived.Laws.Rows
import Derived.Lib.AppendStr
import Derived.ArgAppend
import Derived.Laws.IdiomCopy
import Derived.OrdersHeld
import Derived.Laws.BitsLemmas
import Derived.RowKit
import Derived.WalkLawsBesides
import Derived.WalkSpells
import Derived.Sort.Walk0
import Derived.Handy
import Derived.Lib.Hide
section
namespace Go.Proofs.Ytnjeeedndnfglaa.X
open Go.RowKit Go.Proofs.YtnjeeedndnfglaaW.PrintWords Go.Proofs.YtnjeeedndnfglaaW.PrintLast Go.Proofs.YtnjeeedndnfglaaW.PrintMore
attribute [local go_sem] max2_int min2_int max_two min_two max_three min_three max_four min_four   -- for this text's walks alone
set_option linter.unusedVariables false
set_option linter.unusedSimpArgs false



def errW : Option Int → Value
  | none => .nilIface
  | some c => .iface 0 (.int .i64 c)
theorem errW_none : errW none = .nilIface := rfl
theorem errW_some (c : Int) : errW (some c) = .iface 0 (.int .i64 c) := rfl

theorem info3 : (Try.prog.info? 3).map (fun i => (i.zero, i.size, i.bytes)) = some (some (.int .i64 0), 1, 8) := by kernel_rfl
theorem info9 : (Try.prog.info? 9).map (fun i => (i.zero, i.size, i.bytes)) = some (some (.string ⟨#[]⟩), 1, 16) := by kernel_rfl
theorem info29 : (Try.prog.info? 29).map (fun i => (i.zero, i.size, i.bytes)) = some (some (.agg #[(.int .i64 0), (.int .i64 0), (.int .i64 0), (.int .i64 0), (.int .i64 0), (.int .i64 0), (.slice none 0 0), (.slice none 0 0), (.bool false)]), 9, 104) := by kernel_rfl
theorem info38 : (Try.prog.info? 38).map (fun i => (i.zero, i.size, i.bytes)) = some (some (.agg #[(.string ⟨#[]⟩), (.int .i64 0), (.int .i64 0)]), 3, 32) := by kernel_rfl
theorem info40 : (Try.prog.info? 40).map (fun i => (i.zero, i.size, i.bytes)) = some (some (.agg #[(.string ⟨#[]⟩), (.string ⟨#[]⟩)]), 2, 32) := by kernel_rfl
-- the values' own types
/-! #### struct type 23 -/
structure S23 where
  f0 : Int
  f1 : Int
def z23 : S23 := ⟨(0 : Int), (0 : Int)⟩
def k23 : Kd S23 := Kd.iso (Kd.pair (Kd.int .i64) (Kd.int .i64)) (fun x : S23 => (x.f0, x.f1))
theorem k23_heap : Kd.Heap k23 := Kd.heap_iso _ (Kd.heap_pair (Kd.heap_int .i64) (Kd.heap_int .i64))
theorem k23_open {w : World} {x : S23} {cs : List Value} (h : k23.K w x cs) : cs = [.int .i64 x.f0, .int .i64 x.f1] := by
  obtain ⟨_, _, rfl, rfl, rfl⟩ := h
  exact rfl
theorem k23_openM {w : World} {base : Nat} {ok : Nat → Prop} {x : S23} {cs : List Value} (h : k23.M w base ok x cs) : cs = [.int .i64 x.f0, .int .i64 x.f1] := by
  obtain ⟨_, _, rfl, rfl, rfl⟩ := h
  exact rfl
theorem k23_mk (w : World) (x : S23)  : k23.K w x [.int .i64 x.f0, .int .i64 x.f1] := ⟨[.int .i64 x.f0], [.int .i64 x.f1], rfl, rfl, rfl⟩
theorem k23_mkM (w : World) (base : Nat) (ok : Nat → Prop) (x : S23)  : k23.M w base ok x [.int .i64 x.f0, .int .i64 x.f1] := ⟨[.int .i64 x.f0], [.int .i64 x.f1], rfl, rfl, rfl⟩
theorem k23_mkF (W : World) (ok : Nat → Prop) (x : S23) : Kd.FK k23 W ok x [.int .i64 x.f0, .int .i64 x.f1] := fun W2 _ => k23_mk W2 x
def rd_T23 (xs : List S23) (i : Int) : S23 := xs.getD i.toNat z23
theorem at_T23 {w : World} {A : Option Addr} {n : Nat} {xs : List S23} (h : Kd.C k23 w A n xs) (i : Int) (h0 : 0 ≤ i) (h1 : i < n) : ∃ ad , A = some ad ∧ w.cell? (ad.add (i.toNat * 2)) = some (.int .i64 (rd_T23 xs i).f0) ∧ w.cell? ⟨(ad.add (i.toNat * 2)).block, (ad.add (i.toNat * 2)).off + 1, none⟩ = some (.int .i64 (rd_T23 xs i).f1) := by
  obtain ⟨ad, c, e, _, hK, hc0⟩ := Kd.C_get h z23 i h0 h1
  have hc : ∀ j u, c[j]? = some u → w.cell? (ad.add (i.toNat * 2 + j)) = some u := hc0
  obtain rfl := k23_open hK
  exact ⟨ad, e, hc 0 _ rfl, by rw [← add_field _ _ 1 (by omega)]; exact hc 1 _ rfl⟩

/-! #### struct type 25 -/
structure S25 where
  f0 : Int
  f1 : Int
def z25 : S25 := ⟨(0 : Int), (0 : Int)⟩
def k25 : Kd S25 := Kd.iso (Kd.pair (Kd.int .i64) (Kd.int .i64)) (fun x : S25 => (x.f0, x.f1))
theorem k25_heap : Kd.Heap k25 := Kd.heap_iso _ (Kd.heap_pair (Kd.heap_int .i64) (Kd.heap_int .i64))
theorem k25_open {w : World} {x : S25} {cs : List Value} (h : k25.K w x cs) : cs = [.int .i64 x.f0, .int .i64 x.f1] := by
  obtain ⟨_, _, rfl, rfl, rfl⟩ := h
  exact rfl
theorem k25_openM {w : World} {base : Nat} {ok : Nat → Prop} {x : S25} {cs : List Value} (h : k25.M w base ok x cs) : cs = [.int .i64 x.f0, .int .i64 x.f1] := by
  obtain ⟨_, _, rfl, rfl, rfl⟩ := h
  exact rfl
theorem k25_mk (w : World) (x : S25)  : k25.K w x [.int .i64 x.f0, .int .i64 x.f1] := ⟨[.int .i64 x.f0], [.int .i64 x.f1], rfl, rfl, rfl⟩
theorem k25_mkM (w : World) (base : Nat) (ok : Nat → Prop) (x : S25)  : k25.M w base ok x [.int .i64 x.f0, .int .i64 x.f1] := ⟨[.int .i64 x.f0], [.int .i64 x.f1], rfl, rfl, rfl⟩
theorem k25_mkF (W : World) (ok : Nat → Prop) (x : S25) : Kd.FK k25 W ok x [.int .i64 x.f0, .int .i64 x.f1] := fun W2 _ => k25_mk W2 x
def rd_T25 (xs : List S25) (i : Int) : S25 := xs.getD i.toNat z25
theorem at_T25 {w : World} {A : Option Addr} {n : Nat} {xs : List S25} (h : Kd.C k25 w A n xs) (i : Int) (h0 : 0 ≤ i) (h1 : i < n) : ∃ ad , A = some ad ∧ w.cell? (ad.add (i.toNat * 2)) = some (.int .i64 (rd_T25 xs i).f0) ∧ w.cell? ⟨(ad.add (i.toNat * 2)).block, (ad.add (i.toNat * 2)).off + 1, none⟩ = some (.int .i64 (rd_T25 xs i).f1) := by
  obtain ⟨ad, c, e, _, hK, hc0⟩ := Kd.C_get h z25 i h0 h1
  have hc : ∀ j u, c[j]? = some u → w.cell? (ad.add (i.toNat * 2 + j)) = some u := hc0
  obtain rfl := k25_open hK
  exact ⟨ad, e, hc 0 _ rfl, by rw [← add_field _ _ 1 (by omega)]; exact hc 1 _ rfl⟩

/-! #### struct type 38 -/
structure S38 where
  f0 : ByteArray
  f1 : S25
def z38 : S38 := ⟨(⟨#[]⟩ : ByteArray), z25⟩
def k38 : Kd S38 := Kd.iso (Kd.pair Kd.string k25) (fun x : S38 => (x.f0, x.f1))
theorem k38_heap : Kd.Heap k38 := Kd.heap_iso _ (Kd.heap_pair Kd.heap_string k25_heap)
theorem k38_open {w : World} {x : S38} {cs : List Value} (h : k38.K w x cs) : cs = [.string x.f0, .int .i64 x.f1.f0, .int .i64 x.f1.f1] := by
  obtain ⟨_, _, rfl, rfl, s1⟩ := h
  obtain rfl := k25_open s1
  exact rfl
theorem k38_openM {w : World} {base : Nat} {ok : Nat → Prop} {x : S38} {cs : List Value} (h : k38.M w base ok x cs) : cs = [.string x.f0, .int .i64 x.f1.f0, .int .i64 x.f1.f1] := by
  obtain ⟨_, _, rfl, rfl, s1⟩ := h
  obtain rfl := k25_openM s1
  exact rfl
theorem k38_mk (w : World) (x : S38)  : k38.K w x [.string x.f0, .int .i64 x.f1.f0, .int .i64 x.f1.f1] := ⟨[.string x.f0], [.int .i64 x.f1.f0, .int .i64 x.f1.f1], rfl, rfl, (k25_mk w x.f1 )⟩
theorem k38_mkM (w : World) (base : Nat) (ok : Nat → Prop) (x : S38)  : k38.M w base ok x [.string x.f0, .int .i64 x.f1.f0, .int .i64 x.f1.f1] := ⟨[.string x.f0], [.int .i64 x.f1.f0, .int .i64 x.f1.f1], rfl, rfl, (k25_mkM w base ok x.f1 )⟩
theorem k38_mkF (W : World) (ok : Nat → Prop) (x : S38) : Kd.FK k38 W ok x [.string x.f0, .int .i64 x.f1.f0, .int .i64 x.f1.f1] := fun W2 _ => k38_mk W2 x
def rd_T38 (xs : List S38) (i : Int) : S38 := xs.getD i.toNat z38
theorem at_T38 {w : World} {A : Option Addr} {n : Nat} {xs : List S38} (h : Kd.C k38 w A n xs) (i : Int) (h0 : 0 ≤ i) (h1 : i < n) : ∃ ad , A = some ad ∧ w.cell? (ad.add (i.toNat * 3)) = some (.string (rd_T38 xs i).f0) ∧ w.cell? ⟨(ad.add (i.toNat * 3)).block, (ad.add (i.toNat * 3)).off + 1, none⟩ = some (.int .i64 (rd_T38 xs i).f1.f0) ∧ w.cell? ⟨(ad.add (i.toNat * 3)).block, (ad.add (i.toNat * 3)).off + 2, none⟩ = some (.int .i64 (rd_T38 xs i).f1.f1) := by
  obtain ⟨ad, c, e, _, hK, hc0⟩ := Kd.C_get h z38 i h0 h1
  have hc : ∀ j u, c[j]? = some u → w.cell? (ad.add (i.toNat * 3 + j)) = some u := hc0
  obtain rfl := k38_open hK
  exact ⟨ad, e, hc 0 _ rfl, by rw [← add_field _ _ 1 (by omega)]; exact hc 1 _ rfl, by rw [← add_field _ _ 2 (by omega)]; exact hc 2 _ rfl⟩

def rd_L5 (xs : List (List S38)) (i : Int) : (List S38) := xs.getD i.toNat ([] : List S38)
theorem at_L5 {w : World} {A : Option Addr} {n : Nat} {xs : List (List S38)} (h : Kd.C (Kd.slice 38 k38) w A n xs) (i : Int) (h0 : 0 ≤ i) (h1 : i < n) : ∃ ad A0 c0, A = some ad ∧ w.cell? (ad.add i.toNat) = some (.slice A0 (rd_L5 xs i).length c0) ∧ (rd_L5 xs i).length ≤ c0 ∧ k38.C w A0 (rd_L5 xs i).length (rd_L5 xs i) := by
  obtain ⟨ad, c, e, _, hK, hc0⟩ := Kd.C_get h ([] : List S38) i h0 h1
  have hc : ∀ j u, c[j]? = some u → w.cell? (ad.add (i.toNat * 1 + j)) = some u := hc0
  obtain ⟨A0, c0, rfl, l0, g0⟩ := hK
  exact ⟨ad, A0, c0, e, by have hq := hc 0 _ rfl; rwa [Nat.mul_one, Nat.add_zero] at hq, l0, g0⟩

/-! #### struct type 40 -/
structure S40 where
  f0 : ByteArray
  f1 : ByteArray
def z40 : S40 := ⟨(⟨#[]⟩ : ByteArray), (⟨#[]⟩ : ByteArray)⟩
def k40 : Kd S40 := Kd.iso (Kd.pair Kd.string Kd.string) (fun x : S40 => (x.f0, x.f1))
theorem k40_heap : Kd.Heap k40 := Kd.heap_iso _ (Kd.heap_pair Kd.heap_string Kd.heap_string)
theorem k40_open {w : World} {x : S40} {cs : List Value} (h : k40.K w x cs) : cs = [.string x.f0, .string x.f1] := by
  obtain ⟨_, _, rfl, rfl, rfl⟩ := h
  exact rfl
theorem k40_openM {w : World} {base : Nat} {ok : Nat → Prop} {x : S40} {cs : List Value} (h : k40.M w base ok x cs) : cs = [.string x.f0, .string x.f1] := by
  obtain ⟨_, _, rfl, rfl, rfl⟩ := h
  exact rfl
theorem k40_mk (w : World) (x : S40)  : k40.K w x [.string x.f0, .string x.f1] := ⟨[.string x.f0], [.string x.f1], rfl, rfl, rfl⟩
theorem k40_mkM (w : World) (base : Nat) (ok : Nat → Prop) (x : S40)  : k40.M w base ok x [.string x.f0, .string x.f1] := ⟨[.string x.f0], [.string x.f1], rfl, rfl, rfl⟩
theorem k40_mkF (W : World) (ok : Nat → Prop) (x : S40) : Kd.FK k40 W ok x [.string x.f0, .string x.f1] := fun W2 _ => k40_mk W2 x
def rd_T40 (xs : List S40) (i : Int) : S40 := xs.getD i.toNat z40
theorem at_T40 {w : World} {A : Option Addr} {n : Nat} {xs : List S40} (h : Kd.C k40 w A n xs) (i : Int) (h0 : 0 ≤ i) (h1 : i < n) : ∃ ad , A = some ad ∧ w.cell? (ad.add (i.toNat * 2)) = some (.string (rd_T40 xs i).f0) ∧ w.cell? ⟨(ad.add (i.toNat * 2)).block, (ad.add (i.toNat * 2)).off + 1, none⟩ = some (.string (rd_T40 xs i).f1) := by
  obtain ⟨ad, c, e, _, hK, hc0⟩ := Kd.C_get h z40 i h0 h1
  have hc : ∀ j u, c[j]? = some u → w.cell? (ad.add (i.toNat * 2 + j)) = some u := hc0
  obtain rfl := k40_open hK
  exact ⟨ad, e, hc 0 _ rfl, by rw [← add_field _ _ 1 (by omega)]; exact hc 1 _ rfl⟩

def rd_L7 (xs : List (List S40)) (i : Int) : (List S40) := xs.getD i.toNat ([] : List S40)
theorem at_L7 {w : World} {A : Option Addr} {n : Nat} {xs : List (List S40)} (h : Kd.C (Kd.slice 40 k40) w A n xs) (i : Int) (h0 : 0 ≤ i) (h1 : i < n) : ∃ ad A0 c0, A = some ad ∧ w.cell? (ad.add i.toNat) = some (.slice A0 (rd_L7 xs i).length c0) ∧ (rd_L7 xs i).length ≤ c0 ∧ k40.C w A0 (rd_L7 xs i).length (rd_L7 xs i) := by
  obtain ⟨ad, c, e, _, hK, hc0⟩ := Kd.C_get h ([] : List S40) i h0 h1
  have hc : ∀ j u, c[j]? = some u → w.cell? (ad.add (i.toNat * 1 + j)) = some u := hc0
  obtain ⟨A0, c0, rfl, l0, g0⟩ := hK
  exact ⟨ad, A0, c0, e, by have hq := hc 0 _ rfl; rwa [Nat.mul_one, Nat.add_zero] at hq, l0, g0⟩

/-! #### struct type 29 -/
structure S29 where
  f0 : Int
  f1 : S23
  f2 : S25
  f3 : Int
  f4 : (List S38)
  f5 : (List S40)
  f6 : Bool
def z29 : S29 := ⟨(0 : Int), z23, z25, (0 : Int), ([] : List S38), ([] : List S40), false⟩
def k29 : Kd S29 := Kd.iso (Kd.pair (Kd.int .i64) (Kd.pair k23 (Kd.pair k25 (Kd.pair (Kd.int .i64) (Kd.pair (Kd.slice 38 k38) (Kd.pair (Kd.slice 40 k40) Kd.bool)))))) (fun x : S29 => (x.f0, x.f1, x.f2, x.f3, x.f4, x.f5, x.f6))
theorem k29_heap : Kd.Heap k29 := Kd.heap_iso _ (Kd.heap_pair (Kd.heap_int .i64) (Kd.heap_pair k23_heap (Kd.heap_pair k25_heap (Kd.heap_pair (Kd.heap_int .i64) (Kd.heap_pair (Kd.heap_slice 38 k38_heap) (Kd.heap_pair (Kd.heap_slice 40 k40_heap) Kd.heap_bool))))))
theorem k29_open {w : World} {x : S29} {cs : List Value} (h : k29.K w x cs) : ∃ A6 c6 A7 c7, cs = [.int .i64 x.f0, .int .i64 x.f1.f0, .int .i64 x.f1.f1, .int .i64 x.f2.f0, .int .i64 x.f2.f1, .int .i64 x.f3, .slice A6 x.f4.length c6, .slice A7 x.f5.length c7, .bool x.f6] ∧ x.f4.length ≤ c6 ∧ k38.C w A6 x.f4.length x.f4 ∧ x.f5.length ≤ c7 ∧ k40.C w A7 x.f5.length x.f5 := by
  obtain ⟨_, _, rfl, rfl, ⟨_, _, rfl, s1, ⟨_, _, rfl, s3, ⟨_, _, rfl, rfl, ⟨_, _, rfl, ⟨A6, c6, rfl, l6, g6⟩, ⟨_, _, rfl, ⟨A7, c7, rfl, l7, g7⟩, rfl⟩⟩⟩⟩⟩⟩ := h
  obtain rfl := k23_open s1
  obtain rfl := k25_open s3
  exact ⟨A6, c6, A7, c7, rfl, l6, g6, l7, g7⟩
theorem k29_openM {w : World} {base : Nat} {ok : Nat → Prop} {x : S29} {cs : List Value} (h : k29.M w base ok x cs) : ∃ v6 v7, cs = [.int .i64 x.f0, .int .i64 x.f1.f0, .int .i64 x.f1.f1, .int .i64 x.f2.f0, .int .i64 x.f2.f1, .int .i64 x.f3, v6, v7, .bool x.f6] ∧ k38.R 38 w base ok v6 x.f4 ∧ k40.R 40 w base ok v7 x.f5 := by
  obtain ⟨_, _, rfl, rfl, ⟨_, _, rfl, s1, ⟨_, _, rfl, s3, ⟨_, _, rfl, rfl, ⟨_, _, rfl, ⟨v6, rfl, g6⟩, ⟨_, _, rfl, ⟨v7, rfl, g7⟩, rfl⟩⟩⟩⟩⟩⟩ := h
  obtain rfl := k23_openM s1
  obtain rfl := k25_openM s3
  exact ⟨v6, v7, rfl, g6, g7⟩
theorem k29_mk (w : World) (x : S29) {A6 : Option Addr} {c6 : Nat} (l6 : x.f4.length ≤ c6) (g6 : k38.C w A6 x.f4.length x.f4) {A7 : Option Addr} {c7 : Nat} (l7 : x.f5.length ≤ c7) (g7 : k40.C w A7 x.f5.length x.f5) : k29.K w x [.int .i64 x.f0, .int .i64 x.f1.f0, .int .i64 x.f1.f1, .int .i64 x.f2.f0, .int .i64 x.f2.f1, .int .i64 x.f3, .slice A6 x.f4.length c6, .slice A7 x.f5.length c7, .bool x.f6] := ⟨[.int .i64 x.f0], [.int .i64 x.f1.f0, .int .i64 x.f1.f1, .int .i64 x.f2.f0, .int .i64 x.f2.f1, .int .i64 x.f3, .slice A6 x.f4.length c6, .slice A7 x.f5.length c7, .bool x.f6], rfl, rfl, ⟨[.int .i64 x.f1.f0, .int .i64 x.f1.f1], [.int .i64 x.f2.f0, .int .i64 x.f2.f1, .int .i64 x.f3, .slice A6 x.f4.length c6, .slice A7 x.f5.length c7, .bool x.f6], rfl, (k23_mk w x.f1 ), ⟨[.int .i64 x.f2.f0, .int .i64 x.f2.f1], [.int .i64 x.f3, .slice A6 x.f4.length c6, .slice A7 x.f5.length c7, .bool x.f6], rfl, (k25_mk w x.f2 ), ⟨[.int .i64 x.f3], [.slice A6 x.f4.length c6, .slice A7 x.f5.length c7, .bool x.f6], rfl, rfl, ⟨[.slice A6 x.f4.length c6], [.slice A7 x.f5.length c7, .bool x.f6], rfl, ⟨A6, c6, rfl, l6, g6⟩, ⟨[.slice A7 x.f5.length c7], [.bool x.f6], rfl, ⟨A7, c7, rfl, l7, g7⟩, rfl⟩⟩⟩⟩⟩⟩
theorem k29_mkM (w : World) (base : Nat) (ok : Nat → Prop) (x : S29) {v6 : Value} (g6 : k38.R 38 w base ok v6 x.f4) {v7 : Value} (g7 : k40.R 40 w base ok v7 x.f5) : k29.M w base ok x [.int .i64 x.f0, .int .i64 x.f1.f0, .int .i64 x.f1.f1, .int .i64 x.f2.f0, .int .i64 x.f2.f1, .int .i64 x.f3, v6, v7, .bool x.f6] := ⟨[.int .i64 x.f0], [.int .i64 x.f1.f0, .int .i64 x.f1.f1, .int .i64 x.f2.f0, .int .i64 x.f2.f1, .int .i64 x.f3, v6, v7, .bool x.f6], rfl, rfl, ⟨[.int .i64 x.f1.f0, .int .i64 x.f1.f1], [.int .i64 x.f2.f0, .int .i64 x.f2.f1, .int .i64 x.f3, v6, v7, .bool x.f6], rfl, (k23_mkM w base ok x.f1 ), ⟨[.int .i64 x.f2.f0, .int .i64 x.f2.f1], [.int .i64 x.f3, v6, v7, .bool x.f6], rfl, (k25_mkM w base ok x.f2 ), ⟨[.int .i64 x.f3], [v6, v7, .bool x.f6], rfl, rfl, ⟨[v6], [v7, .bool x.f6], rfl, ⟨v6, rfl, g6⟩, ⟨[v7], [.bool x.f6], rfl, ⟨v7, rfl, g7⟩, rfl⟩⟩⟩⟩⟩⟩
theorem k29_openF {W : World} {ok : Nat → Prop} {x : S29} {cs : List Value} (h : Kd.FK k29 W ok x cs) : ∃ A6 c6 A7 c7, cs = [.int .i64 x.f0, .int .i64 x.f1.f0, .int .i64 x.f1.f1, .int .i64 x.f2.f0, .int .i64 x.f2.f1, .int .i64 x.f3, .slice A6 x.f4.length c6, .slice A7 x.f5.length c7, .bool x.f6] ∧ x.f4.length ≤ c6 ∧ Kd.F k38 W ok A6 x.f4.length x.f4 ∧ x.f5.length ≤ c7 ∧ Kd.F k40 W ok A7 x.f5.length x.f5 := by
  obtain ⟨A6, c6, A7, c7, rfl, l6, _, l7, _⟩ := k29_open (Kd.FK_now h)
  exact ⟨A6, c6, A7, c7, rfl, l6, (fun W' hW => by obtain ⟨A6_, c6_, A7_, c7_, he, l6_, g6_, l7_, g7_⟩ := k29_open (h W' hW); injection (Option.some.inj (show some (Value.slice A6 x.f4.length c6) = some (Value.slice A6_ x.f4.length c6_) from congrArg (fun l => l[6]?) he)) with ha_ _ _; rw [ha_]; exact g6_), l7, (fun W' hW => by obtain ⟨A6_, c6_, A7_, c7_, he, l6_, g6_, l7_, g7_⟩ := k29_open (h W' hW); injection (Option.some.inj (show some (Value.slice A7 x.f5.length c7) = some (Value.slice A7_ x.f5.length c7_) from congrArg (fun l => l[7]?) he)) with ha_ _ _; rw [ha_]; exact g7_)⟩
theorem k29_mkF (W : World) (ok : Nat → Prop) (x : S29) {A6 : Option Addr} {c6 : Nat} (l6 : x.f4.length ≤ c6) (g6 : Kd.F k38 W ok A6 x.f4.length x.f4) {A7 : Option Addr} {c7 : Nat} (l7 : x.f5.length ≤ c7) (g7 : Kd.F k40 W ok A7 x.f5.length x.f5) : Kd.FK k29 W ok x [.int .i64 x.f0, .int .i64 x.f1.f0, .int .i64 x.f1.f1, .int .i64 x.f2.f0, .int .i64 x.f2.f1, .int .i64 x.f3, .slice A6 x.f4.length c6, .slice A7 x.f5.length c7, .bool x.f6] := fun W2 hW => k29_mk W2 x l6 (g6 W2 hW) l7 (g7 W2 hW)
def rd_T29 (xs : List S29) (i : Int) : S29 := xs.getD i.toNat z29
theorem at_T29 {w : World} {A : Option Addr} {n : Nat} {xs : List S29} (h : Kd.C k29 w A n xs) (i : Int) (h0 : 0 ≤ i) (h1 : i < n) : ∃ ad A6 c6 A7 c7, A = some ad ∧ w.cell? (ad.add (i.toNat * 9)) = some (.int .i64 (rd_T29 xs i).f0) ∧ w.cell? ⟨(ad.add (i.toNat * 9)).block, (ad.add (i.toNat * 9)).off + 1, none⟩ = some (.int .i64 (rd_T29 xs i).f1.f0) ∧ w.cell? ⟨(ad.add (i.toNat * 9)).block, (ad.add (i.toNat * 9)).off + 2, none⟩ = some (.int .i64 (rd_T29 xs i).f1.f1) ∧ w.cell? ⟨(ad.add (i.toNat * 9)).block, (ad.add (i.toNat * 9)).off + 3, none⟩ = some (.int .i64 (rd_T29 xs i).f2.f0) ∧ w.cell? ⟨(ad.add (i.toNat * 9)).block, (ad.add (i.toNat * 9)).off + 4, none⟩ = some (.int .i64 (rd_T29 xs i).f2.f1) ∧ w.cell? ⟨(ad.add (i.toNat * 9)).block, (ad.add (i.toNat * 9)).off + 5, none⟩ = some (.int .i64 (rd_T29 xs i).f3) ∧ w.cell? ⟨(ad.add (i.toNat * 9)).block, (ad.add (i.toNat * 9)).off + 6, none⟩ = some (.slice A6 (rd_T29 xs i).f4.length c6) ∧ w.cell? ⟨(ad.add (i.toNat * 9)).block, (ad.add (i.toNat * 9)).off + 7, none⟩ = some (.slice A7 (rd_T29 xs i).f5.length c7) ∧ w.cell? ⟨(ad.add (i.toNat * 9)).block, (ad.add (i.toNat * 9)).off + 8, none⟩ = some (.bool (rd_T29 xs i).f6) ∧ (rd_T29 xs i).f4.length ≤ c6 ∧ k38.C w A6 (rd_T29 xs i).f4.length (rd_T29 xs i).f4 ∧ (rd_T29 xs i).f5.length ≤ c7 ∧ k40.C w A7 (rd_T29 xs i).f5.length (rd_T29 xs i).f5 := by
  obtain ⟨ad, c, e, _, hK, hc0⟩ := Kd.C_get h z29 i h0 h1
  have hc : ∀ j u, c[j]? = some u → w.cell? (ad.add (i.toNat * 9 + j)) = some u := hc0
  obtain ⟨A6, c6, A7, c7, rfl, l6, g6, l7, g7⟩ := k29_open hK
  exact ⟨ad, A6, c6, A7, c7, e, hc 0 _ rfl, by rw [← add_field _ _ 1 (by omega)]; exact hc 1 _ rfl, by rw [← add_field _ _ 2 (by omega)]; exact hc 2 _ rfl, by rw [← add_field _ _ 3 (by omega)]; exact hc 3 _ rfl, by rw [← add_field _ _ 4 (by omega)]; exact hc 4 _ rfl, by rw [← add_field _ _ 5 (by omega)]; exact hc 5 _ rfl, by rw [← add_field _ _ 6 (by omega)]; exact hc 6 _ rfl, by rw [← add_field _ _ 7 (by omega)]; exact hc 7 _ rfl, by rw [← add_field _ _ 8 (by omega)]; exact hc 8 _ rfl, l6, g6, l7, g7⟩

def rd_L10 (xs : List (List ByteArray)) (i : Int) : (List ByteArray) := xs.getD i.toNat ([] : List ByteArray)
theorem at_L10 {w : World} {A : Option Addr} {n : Nat} {xs : List (List ByteArray)} (h : Kd.C (Kd.slice 9 Kd.string) w A n xs) (i : Int) (h0 : 0 ≤ i) (h1 : i < n) : ∃ ad A0 c0, A = some ad ∧ w.cell? (ad.add i.toNat) = some (.slice A0 (rd_L10 xs i).length c0) ∧ (rd_L10 xs i).length ≤ c0 ∧ Kd.string.C w A0 (rd_L10 xs i).length (rd_L10 xs i) := by
  obtain ⟨ad, c, e, _, hK, hc0⟩ := Kd.C_get h ([] : List ByteArray) i h0 h1
  have hc : ∀ j u, c[j]? = some u → w.cell? (ad.add (i.toNat * 1 + j)) = some u := hc0
  obtain ⟨A0, c0, rfl, l0, g0⟩ := hK
  exact ⟨ad, A0, c0, e, by have hq := hc 0 _ rfl; rwa [Nat.mul_one, Nat.add_zero] at hq, l0, g0⟩

end Go.Proofs.Ytnjeeedndnfglaa.X
end
section
namespace Go.Proofs.Ytnjeeedndnfglaa.X
open Go.RowKit Go.Proofs.YtnjeeedndnfglaaW.PrintWords Go.Proofs.YtnjeeedndnfglaaW.PrintLast Go.Proofs.YtnjeeedndnfglaaW.PrintMore
attribute [local go_sem] max2_int min2_int max_two min_two max_three min_three max_four min_four   -- for this text's walks alone
set_option linter.unusedVariables false
set_option linter.unusedSimpArgs false

theorem eqA23 (d : Nat) (w : World) (x0 y0 : Int) (x1 y1 : Int) :
    (Op.equalIn (d + 2) 23 (.agg #[.int .i64 x0, .int .i64 x1]) (.agg #[.int .i64 y0, .int .i64 y1])).run Try.prog w = .ok (x0 == y0 && (x1 == y1)) w := by
  refine eqA_of Try.underlying23 (by kernel_rfl) ?_
  refine eqf_cons (by rfl) (by go_simp; rfl) (by go_simp; rfl) (by go_simp) ?_
  exact eqf_last (by rfl) (by go_simp; rfl) (by go_simp; rfl) (by go_simp)
end Go.Proofs.Ytnjeeedndnfglaa.X
end
section
namespace Go.Proofs.Ytnjeeedndnfglaa.X
open Go.RowKit Go.Proofs.YtnjeeedndnfglaaW.PrintWords Go.Proofs.YtnjeeedndnfglaaW.PrintLast Go.Proofs.YtnjeeedndnfglaaW.PrintMore
attribute [local go_sem] max2_int min2_int max_two min_two max_three min_three max_four min_four   -- for this text's walks alone
set_option linter.unusedVariables false
set_option linter.unusedSimpArgs false

theorem eqA25 (d : Nat) (w : World) (x0 y0 : Int) (x1 y1 : Int) :
    (Op.equalIn (d + 2) 25 (.agg #[.int .i64 x0, .int .i64 x1]) (.agg #[.int .i64 y0, .int .i64 y1])).run Try.prog w = .ok (x0 == y0 && (x1 == y1)) w := by
  refine eqA_of Try.underlying25 (by kernel_rfl) ?_
  refine eqf_cons (by rfl) (by go_simp; rfl) (by go_simp; rfl) (by go_simp) ?_
  exact eqf_last (by rfl) (by go_simp; rfl) (by go_simp; rfl) (by go_simp)
end Go.Proofs.Ytnjeeedndnfglaa.X
end
section
namespace Go.Proofs.Ytnjeeedndnfglaa.X
open Go.RowKit Go.Proofs.YtnjeeedndnfglaaW.PrintWords Go.Proofs.YtnjeeedndnfglaaW.PrintLast Go.Proofs.YtnjeeedndnfglaaW.PrintMore
attribute [local go_sem] max2_int min2_int max_two min_two max_three min_three max_four min_four   -- for this text's walks alone
set_option linter.unusedVariables false
set_option linter.unusedSimpArgs false
/-! ### althinglaw05_Few: function 8 -/
mutual
def althinglaw05_Few.l0 : Nat → List (S29) → Int → Int → Option (Bool)
 | 0, _, _, _ => none
 | k + 1, x7, x8, x9 => if x9 < x8 then (if 0 ≤ x9 then (if x9 < (x7.length : Int) then (althinglaw05_Few.l1 k 0 x7 x8 x9 ((rd_T29 x7 x9).f0) ((rd_T29 x7 x9).f1.f0) ((rd_T29 x7 x9).f1.f1) ((rd_T29 x7 x9).f2.f0) ((rd_T29 x7 x9).f2.f1) ((rd_T29 x7 x9).f3) ((rd_T29 x7 x9).f4) ((rd_T29 x7 x9).f5) ((rd_T29 x7 x9).f6)) else (none)) else (none)) else (some true)
def althinglaw05_Few.l1 : Nat → Int → List (S29) → Int → Int → Int → Int → Int → Int → Int → Int → List (S38) → List (S40) → Bool → Option (Bool)
 | 0, _, _, _, _, _, _, _, _, _, _, _, _, _ => none
 | k + 1, x5, x7, x8, x9, x103000, x103001, x103002, x103003, x103004, x103005, x103006, x103007, x103008 => if x5 < (x103006.length : Int) then (althinglaw05_Few.j2 k x5 x7 x8 x9 (decide (x5 ≤ 20)) x103000 x103001 x103002 x103003 x103004 x103005 x103006 x103007 x103008) else (althinglaw05_Few.j2 k x5 x7 x8 x9 false x103000 x103001 x103002 x103003 x103004 x103005 x103006 x103007 x103008)
def althinglaw05_Few.j2 : Nat → Int → List (S29) → Int → Int → Bool → Int → Int → Int → Int → Int → Int → List (S38) → List (S40) → Bool → Option (Bool)
 | 0, _, _, _, _, _, _, _, _, _, _, _, _, _, _ => none
 | k + 1, x5, x7, x8, x9, x21, x103000, x103001, x103002, x103003, x103004, x103005, x103006, x103007, x103008 => if x21 = true then (if 0 ≤ x5 then (if x5 < (x103006.length : Int) then (if (((rd_T38 x103006 x5).f0).size : Int) > 100 then (some false) else (althinglaw05_Few.l1 k (wrap64 (x5 + 1)) x7 x8 x9 x103000 x103001 x103002 x103003 x103004 x103005 x103006 x103007 x103008)) else (none)) else (none)) else (althinglaw05_Few.l2 k 0 x7 x8 x9 x103000 x103001 x103002 x103003 x103004 x103005 x103006 x103007 x103008)
def althinglaw05_Few.l2 : Nat → Int → List (S29) → Int → Int → Int → Int → Int → Int → Int → Int → List (S38) → List (S40) → Bool → Option (Bool)
 | 0, _, _, _, _, _, _, _, _, _, _, _, _, _ => none
 | k + 1, x6, x7, x8, x9, x103000, x103001, x103002, x103003, x103004, x103005, x103006, x103007, x103008 => if x6 < (x103007.length : Int) then (althinglaw05_Few.j4 k x6 x7 x8 x9 (decide (x6 ≤ 20)) x103000 x103001 x103002 x103003 x103004 x103005 x103006 x103007 x103008) else (althinglaw05_Few.j4 k x6 x7 x8 x9 false x103000 x103001 x103002 x103003 x103004 x103005 x103006 x103007 x103008)
def althinglaw05_Few.j4 : Nat → Int → List (S29) → Int → Int → Bool → Int → Int → Int → Int → Int → Int → List (S38) → List (S40) → Bool → Option (Bool)
 | 0, _, _, _, _, _, _, _, _, _, _, _, _, _, _ => none
 | k + 1, x6, x7, x8, x9, x40, x103000, x103001, x103002, x103003, x103004, x103005, x103006, x103007, x103008 => if x40 = true then (if 0 ≤ x6 then (if x6 < (x103007.length : Int) then (if (((rd_T40 x103007 x6).f0).size : Int) > 100 then (some false) else (if (((rd_T40 x103007 x6).f1).size : Int) > 100 then (some false) else (althinglaw05_Few.l2 k (wrap64 (x6 + 1)) x7 x8 x9 x103000 x103001 x103002 x103003 x103004 x103005 x103006 x103007 x103008))) else (none)) else (none)) else (if (x103006.length : Int) > 20 then (some false) else (if (x103007.length : Int) > 20 then (some false) else (althinglaw05_Few.l0 k x7 x8 (wrap64 (x9 + 1)))))
end
def althinglaw05_Few.f (k : Nat) (l0 : List (S29)) : Option (Bool) := althinglaw05_Few.l0 k l0 (l0.length : Int) 0
theorem althinglaw05_Few.mono_l : ∀ k, (∀ y0 y1 y2, LeO (althinglaw05_Few.l0 k y0 y1 y2) (althinglaw05_Few.l0 (k + 1) y0 y1 y2)) ∧ (∀ y0 y1 y2 y3 y4 y5 y6 y7 y8 y9 y10 y11 y12, LeO (althinglaw05_Few.l1 k y0 y1 y2 y3 y4 y5 y6 y7 y8 y9 y10 y11 y12) (althinglaw05_Few.l1 (k + 1) y0 y1 y2 y3 y4 y5 y6 y7 y8 y9 y10 y11 y12)) ∧ (∀ y0 y1 y2 y3 y4 y5 y6 y7 y8 y9 y10 y11 y12 y13, LeO (althinglaw05_Few.j2 k y0 y1 y2 y3 y4 y5 y6 y7 y8 y9 y10 y11 y12 y13) (althinglaw05_Few.j2 (k + 1) y0 y1 y2 y3 y4 y5 y6 y7 y8 y9 y10 y11 y12 y13)) ∧ (∀ y0 y1 y2 y3 y4 y5 y6 y7 y8 y9 y10 y11 y12, LeO (althinglaw05_Few.l2 k y0 y1 y2 y3 y4 y5 y6 y7 y8 y9 y10 y11 y12) (althinglaw05_Few.l2 (k + 1) y0 y1 y2 y3 y4 y5 y6 y7 y8 y9 y10 y11 y12)) ∧ (∀ y0 y1 y2 y3 y4 y5 y6 y7 y8 y9 y10 y11 y12 y13, LeO (althinglaw05_Few.j4 k y0 y1 y2 y3 y4 y5 y6 y7 y8 y9 y10 y11 y12 y13) (althinglaw05_Few.j4 (k + 1) y0 y1 y2 y3 y4 y5 y6 y7 y8 y9 y10 y11 y12 y13))
 | 0 => ⟨fun _ _ _ r h => by simp [althinglaw05_Few.l0] at h, fun _ _ _ _ _ _ _ _ _ _ _ _ _ r h => by simp [althinglaw05_Few.l1] at h, fun _ _ _ _ _ _ _ _ _ _ _ _ _ _ r h => by simp [althinglaw05_Few.j2] at h, fun _ _ _ _ _ _ _ _ _ _ _ _ _ r h => by simp [althinglaw05_Few.l2] at h, fun _ _ _ _ _ _ _ _ _ _ _ _ _ _ r h => by simp [althinglaw05_Few.j4] at h⟩
 | k + 1 => by
  obtain ⟨ih0, ih1, ih2, ih3, ih4⟩ := althinglaw05_Few.mono_l k
  refine ⟨?_, ?_, ?_, ?_, ?_⟩
  · intro y0 y1 y2
    unfold althinglaw05_Few.l0
    repeat' first
    | (with_reducible exact ih0 _ _ _)
    | (with_reducible exact ih1 _ _ _ _ _ _ _ _ _ _ _ _ _)
    | (with_reducible exact ih2 _ _ _ _ _ _ _ _ _ _ _ _ _ _)
    | (with_reducible exact ih3 _ _ _ _ _ _ _ _ _ _ _ _ _)
    | (with_reducible exact ih4 _ _ _ _ _ _ _ _ _ _ _ _ _ _)
    | (with_reducible exact LeO.refl _)
    | (with_reducible exact LeO.none _)
    | (with_reducible refine LeO.ite ?_ ?_)
    | (with_reducible refine LeO.bind ?_ (fun _ => ?_))
    | exact ih0 _ _ _
    | exact ih1 _ _ _ _ _ _ _ _ _ _ _ _ _
    | exact ih2 _ _ _ _ _ _ _ _ _ _ _ _ _ _
    | exact ih3 _ _ _ _ _ _ _ _ _ _ _ _ _
    | exact ih4 _ _ _ _ _ _ _ _ _ _ _ _ _ _
    | exact LeO.none _
    | refine LeO.ite ?_ ?_
    | refine LeO.bind ?_ (fun _ => ?_)
  · intro y0 y1 y2 y3 y4 y5 y6 y7 y8 y9 y10 y11 y12
    unfold althinglaw05_Few.l1
    repeat' first
    | (with_reducible exact ih0 _ _ _)
    | (with_reducible exact ih1 _ _ _ _ _ _ _ _ _ _ _ _ _)
    | (with_reducible exact ih2 _ _ _ _ _ _ _ _ _ _ _ _ _ _)
    | (with_reducible exact ih3 _ _ _ _ _ _ _ _ _ _ _ _ _)
    | (with_reducible exact ih4 _ _ _ _ _ _ _ _ _ _ _ _ _ _)
    | (with_reducible exact LeO.refl _)
    | (with_reducible exact LeO.none _)
    | (with_reducible refine LeO.ite ?_ ?_)
    | (with_reducible refine LeO.bind ?_ (fun _ => ?_))
    | exact ih0 _ _ _
    | exact ih1 _ _ _ _ _ _ _ _ _ _ _ _ _
    | exact ih2 _ _ _ _ _ _ _ _ _ _ _ _ _ _
    | exact ih3 _ _ _ _ _ _ _ _ _ _ _ _ _
    | exact ih4 _ _ _ _ _ _ _ _ _ _ _ _ _ _
    | exact LeO.none _
    | refine LeO.ite ?_ ?_
    | refine LeO.bind ?_ (fun _ => ?_)
  · intro y0 y1 y2 y3 y4 y5 y6 y7 y8 y9 y10 y11 y12 y13
    unfold althinglaw05_Few.j2
    repeat' first
    | (with_reducible exact ih0 _ _ _)
    | (with_reducible exact ih1 _ _ _ _ _ _ _ _ _ _ _ _ _)
    | (with_reducible exact ih2 _ _ _ _ _ _ _ _ _ _ _ _ _ _)
    | (with_reducible exact ih3 _ _ _ _ _ _ _ _ _ _ _ _ _)
    | (with_reducible exact ih4 _ _ _ _ _ _ _ _ _ _ _ _ _ _)
    | (with_reducible exact LeO.refl _)
    | (with_reducible exact LeO.none _)
    | (with_reducible refine LeO.ite ?_ ?_)
    | (with_reducible refine LeO.bind ?_ (fun _ => ?_))
    | exact ih0 _ _ _
    | exact ih1 _ _ _ _ _ _ _ _ _ _ _ _ _
    | exact ih2 _ _ _ _ _ _ _ _ _ _ _ _ _ _
    | exact ih3 _ _ _ _ _ _ _ _ _ _ _ _ _
    | exact ih4 _ _ _ _ _ _ _ _ _ _ _ _ _ _
    | exact LeO.none _
    | refine LeO.ite ?_ ?_
    | refine LeO.bind ?_ (fun _ => ?_)
  · intro y0 y1 y2 y3 y4 y5 y6 y7 y8 y9 y10 y11 y12
    unfold althinglaw05_Few.l2
    repeat' first
    | (with_reducible exact ih0 _ _ _)
    | (with_reducible exact ih1 _ _ _ _ _ _ _ _ _ _ _ _ _)
    | (with_reducible exact ih2 _ _ _ _ _ _ _ _ _ _ _ _ _ _)
    | (with_reducible exact ih3 _ _ _ _ _ _ _ _ _ _ _ _ _)
    | (with_reducible exact ih4 _ _ _ _ _ _ _ _ _ _ _ _ _ _)
    | (with_reducible exact LeO.refl _)
    | (with_reducible exact LeO.none _)
    | (with_reducible refine LeO.ite ?_ ?_)
    | (with_reducible refine LeO.bind ?_ (fun _ => ?_))
    | exact ih0 _ _ _
    | exact ih1 _ _ _ _ _ _ _ _ _ _ _ _ _
    | exact ih2 _ _ _ _ _ _ _ _ _ _ _ _ _ _
    | exact ih3 _ _ _ _ _ _ _ _ _ _ _ _ _
    | exact ih4 _ _ _ _ _ _ _ _ _ _ _ _ _ _
    | exact LeO.none _
    | refine LeO.ite ?_ ?_
    | refine LeO.bind ?_ (fun _ => ?_)
  · intro y0 y1 y2 y3 y4 y5 y6 y7 y8 y9 y10 y11 y12 y13
    unfold althinglaw05_Few.j4
    repeat' first
    | (with_reducible exact ih0 _ _ _)
    | (with_reducible exact ih1 _ _ _ _ _ _ _ _ _ _ _ _ _)
    | (with_reducible exact ih2 _ _ _ _ _ _ _ _ _ _ _ _ _ _)
    | (with_reducible exact ih3 _ _ _ _ _ _ _ _ _ _ _ _ _)
    | (with_reducible exact ih4 _ _ _ _ _ _ _ _ _ _ _ _ _ _)
    | (with_reducible exact LeO.refl _)
    | (with_reducible exact LeO.none _)
    | (with_reducible refine LeO.ite ?_ ?_)
    | (with_reducible refine LeO.bind ?_ (fun _ => ?_))
    | exact ih0 _ _ _
    | exact ih1 _ _ _ _ _ _ _ _ _ _ _ _ _
    | exact ih2 _ _ _ _ _ _ _ _ _ _ _ _ _ _
    | exact ih3 _ _ _ _ _ _ _ _ _ _ _ _ _
    | exact ih4 _ _ _ _ _ _ _ _ _ _ _ _ _ _
    | exact LeO.none _
    | refine LeO.ite ?_ ?_
    | refine LeO.bind ?_ (fun _ => ?_)
theorem althinglaw05_Few.mono : ∀ a0 k, LeO (althinglaw05_Few.f k a0) (althinglaw05_Few.f (k + 1) a0) := by
 intro a0 k
 obtain ⟨ih0, ih1, ih2, ih3, ih4⟩ := althinglaw05_Few.mono_l k
 unfold althinglaw05_Few.f
 repeat' first
  | (with_reducible exact ih0 _ _ _)
  | (with_reducible exact ih1 _ _ _ _ _ _ _ _ _ _ _ _ _)
  | (with_reducible exact ih2 _ _ _ _ _ _ _ _ _ _ _ _ _ _)
  | (with_reducible exact ih3 _ _ _ _ _ _ _ _ _ _ _ _ _)
  | (with_reducible exact ih4 _ _ _ _ _ _ _ _ _ _ _ _ _ _)
  | (with_reducible exact LeO.refl _)
  | (with_reducible exact LeO.none _)
  | (with_reducible refine LeO.ite ?_ ?_)
  | (with_reducible refine LeO.bind ?_ (fun _ => ?_))
  | exact ih0 _ _ _
  | exact ih1 _ _ _ _ _ _ _ _ _ _ _ _ _
  | exact ih2 _ _ _ _ _ _ _ _ _ _ _ _ _ _
  | exact ih3 _ _ _ _ _ _ _ _ _ _ _ _ _
  | exact ih4 _ _ _ _ _ _ _ _ _ _ _ _ _ _
  | exact LeO.none _
  | refine LeO.ite ?_ ?_
  | refine LeO.bind ?_ (fun _ => ?_)
set_option maxHeartbeats 8000000 in
set_option maxRecDepth 100000 in
theorem althinglaw05_Few.calls (k : Nat) (A0 : Option Addr) (c0 : Nat) (l0 : List (S29)) (r : Bool) (w : World) (hr0 : Kd.C k29 w A0 l0.length l0) (hc0 : l0.length ≤ c0) (h : althinglaw05_Few.f k l0 = some r) :
 Calls Try.prog 8 #[.slice A0 l0.length c0] w fun e w' => e = .returned (.bool r) ∧ Below w.heap.size w w' := by
 have hu29 := Try.underlying29
 have HR0 := Aside0.mk hr0
 have HC0 := Aside0.mk hc0
 clear hr0 hc0
 have HB := Aside0.mk (Below.refl w.heap.size w)
 have H : (althinglaw05_Few.l0 k l0 (l0.length : Int) 0) = some r := h
 clear h
 have H' := Aside0.mk H
 clear H
 go_enter Try.func8, Try.ntmps8
 go_wp2
 go_loopg [9] k (fun kq v9 w' => ∃ (x9_1 : Int), v9 = .int .i64 x9_1 ∧ Aside0 (althinglaw05_Few.l0 kq l0 (l0.length : Int) x9_1 = some r) ∧ Aside0 (kq ≤ k) ∧ Aside0 (Below w.heap.size w w'))
 case atStart => exact ⟨(0), (by first | rfl | (simp; done) | (simp [*]; done)), H', ⟨Nat.le_refl _⟩, ⟨by repeat (first | (with_reducible first | exact HB.out | apply below_alloc | apply pw_below_drewN | apply below_drew1) | exact HB.out)⟩⟩
 case round =>
  clear H'
  obtain ⟨x9_1, rfl, HA, HK1, HB⟩ := hrel
  cases gk with
  | zero => exact absurd HA.out (by simp [althinglaw05_Few.l0])
  | succ k1 =>
   have H := HA.out
   clear HA
   simp only [althinglaw05_Few.l0] at H
   by_cases c2 : x9_1 < (l0.length : Int)
   · rw [if_pos c2] at H
     have c2b0 : decide (x9_1 < (l0.length : Int)) = true := decide_eq_true c2
     clear c2
     by_cases c3 : 0 ≤ x9_1
     · rw [if_pos c3] at H
       have c3b0 : decide (0 ≤ x9_1) = true := decide_eq_true c3
       clear c3
       by_cases c4 : x9_1 < (l0.length : Int)
       · rw [if_pos c4] at H
         have c4b0 : decide (x9_1 < (l0.length : Int)) = true := decide_eq_true c4
         clear c4
         have H' := Aside0.mk H
         clear H
         have p101 : 0 ≤ (x9_1 : Int) := of_decide_eq_true (by first | (with_reducible assumption) | assumption)
         have q101 : x9_1 < (l0.length : Int) := of_decide_eq_true (by first | (with_reducible assumption) | assumption)
         obtain ⟨ad101, A101_6, c101_6, A101_7, c101_7, e101, hx101_0, hx101_1, hx101_2, hx101_3, hx101_4, hx101_5, hx101_6, hx101_7, hx101_8, hl101_6, hi101_6, hl101_7, hi101_7⟩ := at_T29 HR0.out x9_1 p101 q101
         cases e101
         replace hx101_0 := (HB.out.cell (World.block_lt_of_cell? w _ hx101_0)).trans hx101_0
         replace hx101_1 := (HB.out.cell (World.block_lt_of_cell? w _ hx101_1)).trans hx101_1
         replace hx101_2 := (HB.out.cell (World.block_lt_of_cell? w _ hx101_2)).trans hx101_2
         replace hx101_3 := (HB.out.cell (World.block_lt_of_cell? w _ hx101_3)).trans hx101_3
         replace hx101_4 := (HB.out.cell (World.block_lt_of_cell? w _ hx101_4)).trans hx101_4
         replace hx101_5 := (HB.out.cell (World.block_lt_of_cell? w _ hx101_5)).trans hx101_5
         replace hx101_6 := (HB.out.cell (World.block_lt_of_cell? w _ hx101_6)).trans hx101_6
         replace hx101_7 := (HB.out.cell (World.block_lt_of_cell? w _ hx101_7)).trans hx101_7
         replace hx101_8 := (HB.out.cell (World.block_lt_of_cell? w _ hx101_8)).trans hx101_8
         have HR101_6 := Aside0.mk hi101_6
         have HC101_6 := Aside0.mk hl101_6
         clear hi101_6 hl101_6
         have HR101_7 := Aside0.mk hi101_7
         have HC101_7 := Aside0.mk hl101_7
         clear hi101_7 hl101_7
         replace p101 := eq_true p101
         replace q101 := eq_true q101
         go_wp2_with (first | ((with_reducible refine gate_dst (N := 4) rfl ?_); (try (refine gate_guard (by rfl) ?_; dsimp only)); refine box_event ?hg (N := 4) ?hd (cs := #[.int .i64 0, .int .i64 0, .int .i64 0, .int .i64 0, .int .i64 0, .int .i64 0, .slice none 0 0, .slice none 0 0, .bool false]) (t := 29) ?hr ?_; (case hd => rfl); (case hg => rfl); (case hr => first | (go_simp; done) | (go_simp; rfl)); intro gb102 hg w5 hbox hb; have n0_ := Aside0.mk (below_step (by repeat (first | (with_reducible first | exact HB.out | apply below_alloc | apply pw_below_drewN | apply below_drew1) | exact HB.out)) hb); have n1_ := Aside0.mk (hbox); have n2_ := Aside0.mk ((by rw [hg]; exact (below_size (by repeat (first | (with_reducible first | exact HB.out | apply below_alloc | apply pw_below_drewN | apply below_drew1) | exact HB.out))) : w.heap.size ≤ gb102)); have n3_ := Aside0.mk ((by rw [hg]; exact (below_size (by repeat (first | (with_reducible first | exact HB.out | apply below_alloc | apply pw_below_drewN | apply below_drew1) | exact HB.out))) : w.heap.size ≤ gb102)); clear HB; have HB := n0_; have BK102 := n1_; have GW102 := n2_; have GE102 := n3_; clear n0_ n1_ n2_ n3_; clear hb hbox hg; have hcz6_0 : w5.cell? ⟨gb102, 0, none⟩ = some (.int .i64 0) := (blk_cell BK102.out 0).trans rfl; have hcz6_1 : w5.cell? ⟨gb102, 1, none⟩ = some (.int .i64 0) := (blk_cell BK102.out 1).trans rfl; have hcz6_2 : w5.cell? ⟨gb102, 2, none⟩ = some (.int .i64 0) := (blk_cell BK102.out 2).trans rfl; have hcz6_3 : w5.cell? ⟨gb102, 3, none⟩ = some (.int .i64 0) := (blk_cell BK102.out 3).trans rfl; have hcz6_4 : w5.cell? ⟨gb102, 4, none⟩ = some (.int .i64 0) := (blk_cell BK102.out 4).trans rfl; have hcz6_5 : w5.cell? ⟨gb102, 5, none⟩ = some (.int .i64 0) := (blk_cell BK102.out 5).trans rfl; have hcz6_6 : w5.cell? ⟨gb102, 6, none⟩ = some (.slice none 0 0) := (blk_cell BK102.out 6).trans rfl; have hcz6_7 : w5.cell? ⟨gb102, 7, none⟩ = some (.slice none 0 0) := (blk_cell BK102.out 7).trans rfl; have hcz6_8 : w5.cell? ⟨gb102, 8, none⟩ = some (.bool false) := (blk_cell BK102.out 8).trans rfl; have hfz6_0 := blk_frozen BK102.out 0; have hfz6_1 := blk_frozen BK102.out 1; have hfz6_2 := blk_frozen BK102.out 2; have hfz6_3 := blk_frozen BK102.out 3; have hfz6_4 := blk_frozen BK102.out 4; have hfz6_5 := blk_frozen BK102.out 5; have hfz6_6 := blk_frozen BK102.out 6; have hfz6_7 := blk_frozen BK102.out 7; have hfz6_8 := blk_frozen BK102.out 8) | ((with_reducible refine gate_store (t := 29) (p := 4) rfl ?_); refine store_event (t := 29) (p := 4) (v := ?vo_w7) (w1 := (((((((((w5.setCell ⟨gb102, 0, none⟩ (.int .i64 ((rd_T29 l0 x9_1).f0))).setCell ⟨gb102, 1, none⟩ (.int .i64 ((rd_T29 l0 x9_1).f1.f0))).setCell ⟨gb102, 2, none⟩ (.int .i64 ((rd_T29 l0 x9_1).f1.f1))).setCell ⟨gb102, 3, none⟩ (.int .i64 ((rd_T29 l0 x9_1).f2.f0))).setCell ⟨gb102, 4, none⟩ (.int .i64 ((rd_T29 l0 x9_1).f2.f1))).setCell ⟨gb102, 5, none⟩ (.int .i64 ((rd_T29 l0 x9_1).f3))).setCell ⟨gb102, 6, none⟩ (.slice A101_6 ((rd_T29 l0 x9_1).f4).length c101_6)).setCell ⟨gb102, 7, none⟩ (.slice A101_7 ((rd_T29 l0 x9_1).f5).length c101_7)).setCell ⟨gb102, 8, none⟩ (.bool ((rd_T29 l0 x9_1).f6)))) ?hg ?ho ?hn ?hr ?_; (case ho => rfl); (case hg => rfl); (case hn => rfl); (case hr => first | (go_simp; done) | (go_simp; rfl)); intro w7 hw; have n0_ : Aside0 (w7.heap[gb102]? = some (.cells #[.int .i64 ((rd_T29 l0 x9_1).f0), .int .i64 ((rd_T29 l0 x9_1).f1.f0), .int .i64 ((rd_T29 l0 x9_1).f1.f1), .int .i64 ((rd_T29 l0 x9_1).f2.f0), .int .i64 ((rd_T29 l0 x9_1).f2.f1), .int .i64 ((rd_T29 l0 x9_1).f3), .slice A101_6 ((rd_T29 l0 x9_1).f4).length c101_6, .slice A101_7 ((rd_T29 l0 x9_1).f5).length c101_7, .bool ((rd_T29 l0 x9_1).f6)] 29 (0, 0))) := ⟨(by rw [hw]; exact (by (with_reducible repeat (first | refine blk_drewN ?_ _ | refine blk_drew ?_ | refine blk_alloc ?_ _)); refine blk_put (cs := #[.int .i64 ((rd_T29 l0 x9_1).f0), .int .i64 ((rd_T29 l0 x9_1).f1.f0), .int .i64 ((rd_T29 l0 x9_1).f1.f1), .int .i64 ((rd_T29 l0 x9_1).f2.f0), .int .i64 ((rd_T29 l0 x9_1).f2.f1), .int .i64 ((rd_T29 l0 x9_1).f3), .slice A101_6 ((rd_T29 l0 x9_1).f4).length c101_6, .slice A101_7 ((rd_T29 l0 x9_1).f5).length c101_7, .bool false]) ?_ 8 _ rfl; (with_reducible repeat (first | refine blk_drewN ?_ _ | refine blk_drew ?_ | refine blk_alloc ?_ _)); refine blk_put (cs := #[.int .i64 ((rd_T29 l0 x9_1).f0), .int .i64 ((rd_T29 l0 x9_1).f1.f0), .int .i64 ((rd_T29 l0 x9_1).f1.f1), .int .i64 ((rd_T29 l0 x9_1).f2.f0), .int .i64 ((rd_T29 l0 x9_1).f2.f1), .int .i64 ((rd_T29 l0 x9_1).f3), .slice A101_6 ((rd_T29 l0 x9_1).f4).length c101_6, .slice none 0 0, .bool false]) ?_ 7 _ rfl; (with_reducible repeat (first | refine blk_drewN ?_ _ | refine blk_drew ?_ | refine blk_alloc ?_ _)); refine blk_put (cs := #[.int .i64 ((rd_T29 l0 x9_1).f0), .int .i64 ((rd_T29 l0 x9_1).f1.f0), .int .i64 ((rd_T29 l0 x9_1).f1.f1), .int .i64 ((rd_T29 l0 x9_1).f2.f0), .int .i64 ((rd_T29 l0 x9_1).f2.f1), .int .i64 ((rd_T29 l0 x9_1).f3), .slice none 0 0, .slice none 0 0, .bool false]) ?_ 6 _ rfl; (with_reducible repeat (first | refine blk_drewN ?_ _ | refine blk_drew ?_ | refine blk_alloc ?_ _)); refine blk_put (cs := #[.int .i64 ((rd_T29 l0 x9_1).f0), .int .i64 ((rd_T29 l0 x9_1).f1.f0), .int .i64 ((rd_T29 l0 x9_1).f1.f1), .int .i64 ((rd_T29 l0 x9_1).f2.f0), .int .i64 ((rd_T29 l0 x9_1).f2.f1), .int .i64 0, .slice none 0 0, .slice none 0 0, .bool false]) ?_ 5 _ rfl; (with_reducible repeat (first | refine blk_drewN ?_ _ | refine blk_drew ?_ | refine blk_alloc ?_ _)); refine blk_put (cs := #[.int .i64 ((rd_T29 l0 x9_1).f0), .int .i64 ((rd_T29 l0 x9_1).f1.f0), .int .i64 ((rd_T29 l0 x9_1).f1.f1), .int .i64 ((rd_T29 l0 x9_1).f2.f0), .int .i64 0, .int .i64 0, .slice none 0 0, .slice none 0 0, .bool false]) ?_ 4 _ rfl; (with_reducible repeat (first | refine blk_drewN ?_ _ | refine blk_drew ?_ | refine blk_alloc ?_ _)); refine blk_put (cs := #[.int .i64 ((rd_T29 l0 x9_1).f0), .int .i64 ((rd_T29 l0 x9_1).f1.f0), .int .i64 ((rd_T29 l0 x9_1).f1.f1), .int .i64 0, .int .i64 0, .int .i64 0, .slice none 0 0, .slice none 0 0, .bool false]) ?_ 3 _ rfl; (with_reducible repeat (first | refine blk_drewN ?_ _ | refine blk_drew ?_ | refine blk_alloc ?_ _)); refine blk_put (cs := #[.int .i64 ((rd_T29 l0 x9_1).f0), .int .i64 ((rd_T29 l0 x9_1).f1.f0), .int .i64 0, .int .i64 0, .int .i64 0, .int .i64 0, .slice none 0 0, .slice none 0 0, .bool false]) ?_ 2 _ rfl; (with_reducible repeat (first | refine blk_drewN ?_ _ | refine blk_drew ?_ | refine blk_alloc ?_ _)); refine blk_put (cs := #[.int .i64 ((rd_T29 l0 x9_1).f0), .int .i64 0, .int .i64 0, .int .i64 0, .int .i64 0, .int .i64 0, .slice none 0 0, .slice none 0 0, .bool false]) ?_ 1 _ rfl; (with_reducible repeat (first | refine blk_drewN ?_ _ | refine blk_drew ?_ | refine blk_alloc ?_ _)); refine blk_put (cs := #[.int .i64 0, .int .i64 0, .int .i64 0, .int .i64 0, .int .i64 0, .int .i64 0, .slice none 0 0, .slice none 0 0, .bool false]) ?_ 0 _ rfl; (with_reducible repeat (first | refine blk_drewN ?_ _ | refine blk_drew ?_ | refine blk_alloc ?_ _)); exact BK102.out))⟩; have n1_ : Aside0 (Below w.heap.size w w7) := ⟨(by rw [hw]; exact (by repeat (first | (with_reducible first | exact HB.out | apply below_alloc | apply pw_below_drewN | apply below_drew1 | refine below_set ?_ GE102.out) | exact HB.out)))⟩; clear hw; clear BK102; clear HB; have BK102 := n0_; have HB := n1_; clear n0_ n1_))
         go_loopg [5] k1 (fun kq v5 w' => ∃ (x5_2 : Int), v5 = .int .i64 x5_2 ∧ Aside0 (althinglaw05_Few.l1 kq x5_2 l0 (l0.length : Int) x9_1 ((rd_T29 l0 x9_1).f0) ((rd_T29 l0 x9_1).f1.f0) ((rd_T29 l0 x9_1).f1.f1) ((rd_T29 l0 x9_1).f2.f0) ((rd_T29 l0 x9_1).f2.f1) ((rd_T29 l0 x9_1).f3) ((rd_T29 l0 x9_1).f4) ((rd_T29 l0 x9_1).f5) ((rd_T29 l0 x9_1).f6) = some r) ∧ Aside0 (kq ≤ k1) ∧ Aside0 (w'.heap[gb102]? = some (.cells #[.int .i64 ((rd_T29 l0 x9_1).f0), .int .i64 ((rd_T29 l0 x9_1).f1.f0), .int .i64 ((rd_T29 l0 x9_1).f1.f1), .int .i64 ((rd_T29 l0 x9_1).f2.f0), .int .i64 ((rd_T29 l0 x9_1).f2.f1), .int .i64 ((rd_T29 l0 x9_1).f3), (.slice A101_6 ((rd_T29 l0 x9_1).f4).length c101_6), (.slice A101_7 ((rd_T29 l0 x9_1).f5).length c101_7), .bool ((rd_T29 l0 x9_1).f6)] 29 (0, 0))) ∧ Aside0 (Below w.heap.size w w'))
         case atStart => exact ⟨(0), (by first | rfl | (simp; done) | (simp [*]; done)), H', ⟨Nat.le_refl _⟩, ⟨by (with_reducible repeat (first | refine blk_drewN ?_ _ | refine blk_drew ?_ | refine blk_alloc ?_ _)); exact BK102.out⟩, ⟨by repeat (first | (with_reducible first | exact HB.out | apply below_alloc | apply pw_below_drewN | apply below_drew1 | refine below_set ?_ GE102.out) | exact HB.out)⟩⟩
         case round =>
          clear H'
          try clear c1
          try clear p1
          try clear q1
          try clear hx1
          try clear c2
          try clear c2b0
          try clear p2
          try clear c3
          try clear c3b0
          try clear c4
          try clear c4b0
          try clear hcz6_0
          try clear hcz6_1
          try clear hcz6_2
          try clear hcz6_3
          try clear hcz6_4
          try clear hcz6_5
          try clear hcz6_6
          try clear hcz6_7
          try clear hcz6_8
          try clear hfz6_0
          try clear hfz6_1
          try clear hfz6_2
          try clear hfz6_3
          try clear hfz6_4
          try clear hfz6_5
          try clear hfz6_6
          try clear hfz6_7
          try clear hfz6_8
          try clear hx101_0
          try clear hx101_1
          try clear hx101_2
          try clear hx101_3
          try clear hx101_4
          try clear hx101_5
          try clear hx101_6
          try clear hx101_7
          try clear hx101_8
          try clear p101
          try clear q101
          (try clear BK102)
          obtain ⟨x5_2, rfl, HA, HK2, BK102, HB⟩ := hrel
          cases gk with
          | zero => exact absurd HA.out (by simp [althinglaw05_Few.l1])
          | succ k2 =>
           have H := HA.out
           clear HA
           simp only [althinglaw05_Few.l1] at H
           have HC8 := Aside0.mk H
           clear H
           go_upto_region 5 with (fail)
           go_cut [21] (fun v21 wc => ∃ (kq : Nat) (x21_7 : Bool), v21 = .bool x21_7 ∧ Aside0 (althinglaw05_Few.j2 kq x5_2 l0 (l0.length : Int) x9_1 x21_7 ((rd_T29 l0 x9_1).f0) ((rd_T29 l0 x9_1).f1.f0) ((rd_T29 l0 x9_1).f1.f1) ((rd_T29 l0 x9_1).f2.f0) ((rd_T29 l0 x9_1).f2.f1) ((rd_T29 l0 x9_1).f3) ((rd_T29 l0 x9_1).f4) ((rd_T29 l0 x9_1).f5) ((rd_T29 l0 x9_1).f6) = some r) ∧ Aside0 (kq ≤ k2) ∧ Aside0 (wc.heap[gb102]? = some (.cells #[.int .i64 ((rd_T29 l0 x9_1).f0), .int .i64 ((rd_T29 l0 x9_1).f1.f0), .int .i64 ((rd_T29 l0 x9_1).f1.f1), .int .i64 ((rd_T29 l0 x9_1).f2.f0), .int .i64 ((rd_T29 l0 x9_1).f2.f1), .int .i64 ((rd_T29 l0 x9_1).f3), (.slice A101_6 ((rd_T29 l0 x9_1).f4).length c101_6), (.slice A101_7 ((rd_T29 l0 x9_1).f5).length c101_7), .bool ((rd_T29 l0 x9_1).f6)] 29 (0, 0))) ∧ Aside0 (Below w.heap.size w wc))
           case first =>
            have H := HC8.out
            clear HC8
            by_cases c9 : x5_2 < (((rd_T29 l0 x9_1).f4).length : Int)
            · rw [if_pos c9] at H
              have c9b0 : decide (x5_2 < (((rd_T29 l0 x9_1).f4).length : Int)) = true := decide_eq_true c9
              clear c9
              (first | rw [c9b0] | (simp only [i64_w, i32_w]; rw [c9b0]) | skip)
              have H' := Aside0.mk H
              clear H
              have hcz10_0 : wr.cell? ⟨gb102, 0, none⟩ = some (.int .i64 ((rd_T29 l0 x9_1).f0)) := (blk_cell BK102.out 0).trans rfl
              have hcz10_1 : wr.cell? ⟨gb102, 1, none⟩ = some (.int .i64 ((rd_T29 l0 x9_1).f1.f0)) := (blk_cell BK102.out 1).trans rfl
              have hcz10_2 : wr.cell? ⟨gb102, 2, none⟩ = some (.int .i64 ((rd_T29 l0 x9_1).f1.f1)) := (blk_cell BK102.out 2).trans rfl
              have hcz10_3 : wr.cell? ⟨gb102, 3, none⟩ = some (.int .i64 ((rd_T29 l0 x9_1).f2.f0)) := (blk_cell BK102.out 3).trans rfl
              have hcz10_4 : wr.cell? ⟨gb102, 4, none⟩ = some (.int .i64 ((rd_T29 l0 x9_1).f2.f1)) := (blk_cell BK102.out 4).trans rfl
              have hcz10_5 : wr.cell? ⟨gb102, 5, none⟩ = some (.int .i64 ((rd_T29 l0 x9_1).f3)) := (blk_cell BK102.out 5).trans rfl
              have hcz10_6 : wr.cell? ⟨gb102, 6, none⟩ = some (.slice A101_6 ((rd_T29 l0 x9_1).f4).length c101_6) := (blk_cell BK102.out 6).trans rfl
              have hcz10_7 : wr.cell? ⟨gb102, 7, none⟩ = some (.slice A101_7 ((rd_T29 l0 x9_1).f5).length c101_7) := (blk_cell BK102.out 7).trans rfl
              have hcz10_8 : wr.cell? ⟨gb102, 8, none⟩ = some (.bool ((rd_T29 l0 x9_1).f6)) := (blk_cell BK102.out 8).trans rfl
              have hfz10_0 := blk_frozen BK102.out 0
              have hfz10_1 := blk_frozen BK102.out 1
              have hfz10_2 := blk_frozen BK102.out 2
              have hfz10_3 := blk_frozen BK102.out 3
              have hfz10_4 := blk_frozen BK102.out 4
              have hfz10_5 := blk_frozen BK102.out 5
              have hfz10_6 := blk_frozen BK102.out 6
              have hfz10_7 := blk_frozen BK102.out 7
              have hfz10_8 := blk_frozen BK102.out 8
              go_wp2
              go_meet
              case rel => exact ⟨_, (decide (x5_2 ≤ 20)), (by first | rfl | (simp; done) | (simp [*]; done)), H', ⟨by have := HK1.out; have := HK2.out; first | omega | exact Nat.le_refl _⟩, ⟨by (with_reducible repeat (first | refine blk_drewN ?_ _ | refine blk_drew ?_ | refine blk_alloc ?_ _)); exact BK102.out⟩, ⟨by repeat (first | (with_reducible first | exact HB.out | apply below_alloc | apply pw_below_drewN | apply below_drew1 | refine below_set ?_ GE102.out) | exact HB.out)⟩⟩
            · rw [if_neg c9] at H
              have c9b0 : decide (x5_2 < (((rd_T29 l0 x9_1).f4).length : Int)) = false := decide_eq_false c9
              clear c9
              (first | rw [c9b0] | (simp only [i64_w, i32_w]; rw [c9b0]) | skip)
              have H' := Aside0.mk H
              clear H
              have hcz11_0 : wr.cell? ⟨gb102, 0, none⟩ = some (.int .i64 ((rd_T29 l0 x9_1).f0)) := (blk_cell BK102.out 0).trans rfl
              have hcz11_1 : wr.cell? ⟨gb102, 1, none⟩ = some (.int .i64 ((rd_T29 l0 x9_1).f1.f0)) := (blk_cell BK102.out 1).trans rfl
              have hcz11_2 : wr.cell? ⟨gb102, 2, none⟩ = some (.int .i64 ((rd_T29 l0 x9_1).f1.f1)) := (blk_cell BK102.out 2).trans rfl
              have hcz11_3 : wr.cell? ⟨gb102, 3, none⟩ = some (.int .i64 ((rd_T29 l0 x9_1).f2.f0)) := (blk_cell BK102.out 3).trans rfl
              have hcz11_4 : wr.cell? ⟨gb102, 4, none⟩ = some (.int .i64 ((rd_T29 l0 x9_1).f2.f1)) := (blk_cell BK102.out 4).trans rfl
              have hcz11_5 : wr.cell? ⟨gb102, 5, none⟩ = some (.int .i64 ((rd_T29 l0 x9_1).f3)) := (blk_cell BK102.out 5).trans rfl
              have hcz11_6 : wr.cell? ⟨gb102, 6, none⟩ = some (.slice A101_6 ((rd_T29 l0 x9_1).f4).length c101_6) := (blk_cell BK102.out 6).trans rfl
              have hcz11_7 : wr.cell? ⟨gb102, 7, none⟩ = some (.slice A101_7 ((rd_T29 l0 x9_1).f5).length c101_7) := (blk_cell BK102.out 7).trans rfl
              have hcz11_8 : wr.cell? ⟨gb102, 8, none⟩ = some (.bool ((rd_T29 l0 x9_1).f6)) := (blk_cell BK102.out 8).trans rfl
              have hfz11_0 := blk_frozen BK102.out 0
              have hfz11_1 := blk_frozen BK102.out 1
              have hfz11_2 := blk_frozen BK102.out 2
              have hfz11_3 := blk_frozen BK102.out 3
              have hfz11_4 := blk_frozen BK102.out 4
              have hfz11_5 := blk_frozen BK102.out 5
              have hfz11_6 := blk_frozen BK102.out 6
              have hfz11_7 := blk_frozen BK102.out 7
              have hfz11_8 := blk_frozen BK102.out 8
              go_wp2
              go_meet
              case rel => exact ⟨_, (false), (by first | rfl | (simp; done) | (simp [*]; done)), H', ⟨by have := HK1.out; have := HK2.out; first | omega | exact Nat.le_refl _⟩, ⟨by (with_reducible repeat (first | refine blk_drewN ?_ _ | refine blk_drew ?_ | refine blk_alloc ?_ _)); exact BK102.out⟩, ⟨by repeat (first | (with_reducible first | exact HB.out | apply below_alloc | apply pw_below_drewN | apply below_drew1 | refine below_set ?_ GE102.out) | exact HB.out)⟩⟩
           case rest =>
            clear HC8
            try clear c1
            try clear p1
            try clear q1
            try clear hx1
            try clear c2
            try clear c2b0
            try clear p2
            try clear c3
            try clear c3b0
            try clear c4
            try clear c4b0
            try clear c8
            try clear c9
            try clear c9b0
            try clear c10
            try clear p10
            try clear q10
            try clear hx10
            try clear hcz10_0
            try clear hcz10_1
            try clear hcz10_2
            try clear hcz10_3
            try clear hcz10_4
            try clear hcz10_5
            try clear hcz10_6
            try clear hcz10_7
            try clear hcz10_8
            try clear hcz11_0
            try clear hcz11_1
            try clear hcz11_2
            try clear hcz11_3
            try clear hcz11_4
            try clear hcz11_5
            try clear hcz11_6
            try clear hcz11_7
            try clear hcz11_8
            try clear hcz6_0
            try clear hcz6_1
            try clear hcz6_2
            try clear hcz6_3
            try clear hcz6_4
            try clear hcz6_5
            try clear hcz6_6
            try clear hcz6_7
            try clear hcz6_8
            try clear hfz10_0
            try clear hfz10_1
            try clear hfz10_2
            try clear hfz10_3
            try clear hfz10_4
            try clear hfz10_5
            try clear hfz10_6
            try clear hfz10_7
            try clear hfz10_8
            try clear hfz11_0
            try clear hfz11_1
            try clear hfz11_2
            try clear hfz11_3
            try clear hfz11_4
            try clear hfz11_5
            try clear hfz11_6
            try clear hfz11_7
            try clear hfz11_8
            try clear hfz6_0
            try clear hfz6_1
            try clear hfz6_2
            try clear hfz6_3
            try clear hfz6_4
            try clear hfz6_5
            try clear hfz6_6
            try clear hfz6_7
            try clear hfz6_8
            try clear hx101_0
            try clear hx101_1
            try clear hx101_2
            try clear hx101_3
            try clear hx101_4
            try clear hx101_5
            try clear hx101_6
            try clear hx101_7
            try clear hx101_8
            try clear p1
            try clear p101
            try clear p2
            try clear q1
            try clear q101
            obtain ⟨kq, x21_7, rfl, HA, HJ7, BK102, HB⟩ := hcut
            cases kq with
            | zero => exact absurd HA.out (by simp [althinglaw05_Few.j2])
            | succ kj7 =>
             have H := HA.out
             clear HA
             simp only [althinglaw05_Few.j2] at H
             by_cases c12 : x21_7 = true
             · subst c12
               have H1 : (if 0 ≤ x5_2 then (if x5_2 < (((rd_T29 l0 x9_1).f4).length : Int) then (if (((rd_T38 ((rd_T29 l0 x9_1).f4) x5_2).f0).size : Int) > 100 then (some false) else (althinglaw05_Few.l1 kj7 (wrap64 (x5_2 + 1)) l0 (l0.length : Int) x9_1 ((rd_T29 l0 x9_1).f0) ((rd_T29 l0 x9_1).f1.f0) ((rd_T29 l0 x9_1).f1.f1) ((rd_T29 l0 x9_1).f2.f0) ((rd_T29 l0 x9_1).f2.f1) ((rd_T29 l0 x9_1).f3) ((rd_T29 l0 x9_1).f4) ((rd_T29 l0 x9_1).f5) ((rd_T29 l0 x9_1).f6))) else (none)) else (none)) = some r := by rw [if_pos rfl] at H; exact H
               clear H
               have H := H1
               clear H1
               by_cases c13 : 0 ≤ x5_2
               · rw [if_pos c13] at H
                 have c13b0 : decide (0 ≤ x5_2) = true := decide_eq_true c13
                 clear c13
                 by_cases c14 : x5_2 < (((rd_T29 l0 x9_1).f4).length : Int)
                 · rw [if_pos c14] at H
                   have c14b0 : decide (x5_2 < (((rd_T29 l0 x9_1).f4).length : Int)) = true := decide_eq_true c14
                   clear c14
                   by_cases c15 : (((rd_T38 ((rd_T29 l0 x9_1).f4) x5_2).f0).size : Int) > 100
                   · rw [if_pos c15] at H
                     have c15b0 : decide (100 < (((rd_T38 ((rd_T29 l0 x9_1).f4) x5_2).f0).size : Int)) = true := decide_eq_true c15
                     have c15b1 : decide (100 < ((rd_T38 ((rd_T29 l0 x9_1).f4) x5_2).f0).size) = true := decide_eq_true (by omega)
                     clear c15
                     obtain rfl := Option.some.inj H
                     have hcz16_0 : wc.cell? ⟨gb102, 0, none⟩ = some (.int .i64 ((rd_T29 l0 x9_1).f0)) := (blk_cell BK102.out 0).trans rfl
                     have hcz16_1 : wc.cell? ⟨gb102, 1, none⟩ = some (.int .i64 ((rd_T29 l0 x9_1).f1.f0)) := (blk_cell BK102.out 1).trans rfl
                     have hcz16_2 : wc.cell? ⟨gb102, 2, none⟩ = some (.int .i64 ((rd_T29 l0 x9_1).f1.f1)) := (blk_cell BK102.out 2).trans rfl
                     have hcz16_3 : wc.cell? ⟨gb102, 3, none⟩ = some (.int .i64 ((rd_T29 l0 x9_1).f2.f0)) := (blk_cell BK102.out 3).trans rfl
                     have hcz16_4 : wc.cell? ⟨gb102, 4, none⟩ = some (.int .i64 ((rd_T29 l0 x9_1).f2.f1)) := (blk_cell BK102.out 4).trans rfl
                     have hcz16_5 : wc.cell? ⟨gb102, 5, none⟩ = some (.int .i64 ((rd_T29 l0 x9_1).f3)) := (blk_cell BK102.out 5).trans rfl
                     have hcz16_6 : wc.cell? ⟨gb102, 6, none⟩ = some (.slice A101_6 ((rd_T29 l0 x9_1).f4).length c101_6) := (blk_cell BK102.out 6).trans rfl
                     have hcz16_7 : wc.cell? ⟨gb102, 7, none⟩ = some (.slice A101_7 ((rd_T29 l0 x9_1).f5).length c101_7) := (blk_cell BK102.out 7).trans rfl
                     have hcz16_8 : wc.cell? ⟨gb102, 8, none⟩ = some (.bool ((rd_T29 l0 x9_1).f6)) := (blk_cell BK102.out 8).trans rfl
                     have hfz16_0 := blk_frozen BK102.out 0
                     have hfz16_1 := blk_frozen BK102.out 1
                     have hfz16_2 := blk_frozen BK102.out 2
                     have hfz16_3 := blk_frozen BK102.out 3
                     have hfz16_4 := blk_frozen BK102.out 4
                     have hfz16_5 := blk_frozen BK102.out 5
                     have hfz16_6 := blk_frozen BK102.out 6
                     have hfz16_7 := blk_frozen BK102.out 7
                     have hfz16_8 := blk_frozen BK102.out 8
                     have p103 : 0 ≤ (x5_2 : Int) := of_decide_eq_true (by first | (with_reducible assumption) | assumption)
                     have q103 : x5_2 < (((rd_T29 l0 x9_1).f4).length : Int) := of_decide_eq_true (by first | (with_reducible assumption) | assumption)
                     obtain ⟨ad103, e103, hx103_0, hx103_1, hx103_2⟩ := at_T38 HR101_6.out x5_2 p103 q103
                     cases e103
                     replace hx103_0 := (HB.out.cell (World.block_lt_of_cell? w _ hx103_0)).trans hx103_0
                     replace hx103_1 := (HB.out.cell (World.block_lt_of_cell? w _ hx103_1)).trans hx103_1
                     replace hx103_2 := (HB.out.cell (World.block_lt_of_cell? w _ hx103_2)).trans hx103_2
                     replace p103 := eq_true p103
                     replace q103 := eq_true q103
                     go_wp2
                     go_ret
                     exact ⟨by first | rfl | (simp [errW_none, errW_some] <;> rfl) | (simp [*, errW_none, errW_some] <;> rfl), by repeat (first | (with_reducible first | exact HB.out | apply below_alloc | apply pw_below_drewN | apply below_drew1 | refine below_set ?_ GE102.out) | exact HB.out)⟩
                   · rw [if_neg c15] at H
                     have c15b0 : decide (100 < (((rd_T38 ((rd_T29 l0 x9_1).f4) x5_2).f0).size : Int)) = false := decide_eq_false c15
                     have c15b1 : decide (100 < ((rd_T38 ((rd_T29 l0 x9_1).f4) x5_2).f0).size) = false := decide_eq_false (by omega)
                     clear c15
                     have H' := Aside0.mk H
                     clear H
                     have hcz17_0 : wc.cell? ⟨gb102, 0, none⟩ = some (.int .i64 ((rd_T29 l0 x9_1).f0)) := (blk_cell BK102.out 0).trans rfl
                     have hcz17_1 : wc.cell? ⟨gb102, 1, none⟩ = some (.int .i64 ((rd_T29 l0 x9_1).f1.f0)) := (blk_cell BK102.out 1).trans rfl
                     have hcz17_2 : wc.cell? ⟨gb102, 2, none⟩ = some (.int .i64 ((rd_T29 l0 x9_1).f1.f1)) := (blk_cell BK102.out 2).trans rfl
                     have hcz17_3 : wc.cell? ⟨gb102, 3, none⟩ = some (.int .i64 ((rd_T29 l0 x9_1).f2.f0)) := (blk_cell BK102.out 3).trans rfl
                     have hcz17_4 : wc.cell? ⟨gb102, 4, none⟩ = some (.int .i64 ((rd_T29 l0 x9_1).f2.f1)) := (blk_cell BK102.out 4).trans rfl
                     have hcz17_5 : wc.cell? ⟨gb102, 5, none⟩ = some (.int .i64 ((rd_T29 l0 x9_1).f3)) := (blk_cell BK102.out 5).trans rfl
                     have hcz17_6 : wc.cell? ⟨gb102, 6, none⟩ = some (.slice A101_6 ((rd_T29 l0 x9_1).f4).length c101_6) := (blk_cell BK102.out 6).trans rfl
                     have hcz17_7 : wc.cell? ⟨gb102, 7, none⟩ = some (.slice A101_7 ((rd_T29 l0 x9_1).f5).length c101_7) := (blk_cell BK102.out 7).trans rfl
                     have hcz17_8 : wc.cell? ⟨gb102, 8, none⟩ = some (.bool ((rd_T29 l0 x9_1).f6)) := (blk_cell BK102.out 8).trans rfl
                     have hfz17_0 := blk_frozen BK102.out 0
                     have hfz17_1 := blk_frozen BK102.out 1
                     have hfz17_2 := blk_frozen BK102.out 2
                     have hfz17_3 := blk_frozen BK102.out 3
                     have hfz17_4 := blk_frozen BK102.out 4
                     have hfz17_5 := blk_frozen BK102.out 5
                     have hfz17_6 := blk_frozen BK102.out 6
                     have hfz17_7 := blk_frozen BK102.out 7
                     have hfz17_8 := blk_frozen BK102.out 8
                     have p103 : 0 ≤ (x5_2 : Int) := of_decide_eq_true (by first | (with_reducible assumption) | assumption)
                     have q103 : x5_2 < (((rd_T29 l0 x9_1).f4).length : Int) := of_decide_eq_true (by first | (with_reducible assumption) | assumption)
                     obtain ⟨ad103, e103, hx103_0, hx103_1, hx103_2⟩ := at_T38 HR101_6.out x5_2 p103 q103
                     cases e103
                     replace hx103_0 := (HB.out.cell (World.block_lt_of_cell? w _ hx103_0)).trans hx103_0
                     replace hx103_1 := (HB.out.cell (World.block_lt_of_cell? w _ hx103_1)).trans hx103_1
                     replace hx103_2 := (HB.out.cell (World.block_lt_of_cell? w _ hx103_2)).trans hx103_2
                     replace p103 := eq_true p103
                     replace q103 := eq_true q103
                     go_wp2
                     go_roundg kj7
                     case measure => have := HK1.out; have := HK2.out; have := HJ7.out; omega
                     case rel => exact ⟨(wrap64 (x5_2 + 1)), (by first | rfl | (simp; done) | (simp [*]; done)), H', ⟨by have := HK1.out; have := HK2.out; have := HJ7.out; omega⟩, ⟨by (with_reducible repeat (first | refine blk_drewN ?_ _ | refine blk_drew ?_ | refine blk_alloc ?_ _)); exact BK102.out⟩, ⟨by repeat (first | (with_reducible first | exact HB.out | apply below_alloc | apply pw_below_drewN | apply below_drew1 | refine below_set ?_ GE102.out) | exact HB.out)⟩⟩
                 · rw [if_neg c14] at H
                   exact absurd H (by simp)
               · rw [if_neg c13] at H
                 exact absurd H (by simp)
             · replace c12 := Bool.eq_false_iff.mpr c12
               subst c12
               have H1 : (althinglaw05_Few.l2 kj7 0 l0 (l0.length : Int) x9_1 ((rd_T29 l0 x9_1).f0) ((rd_T29 l0 x9_1).f1.f0) ((rd_T29 l0 x9_1).f1.f1) ((rd_T29 l0 x9_1).f2.f0) ((rd_T29 l0 x9_1).f2.f1) ((rd_T29 l0 x9_1).f3) ((rd_T29 l0 x9_1).f4) ((rd_T29 l0 x9_1).f5) ((rd_T29 l0 x9_1).f6)) = some r := by rw [if_neg (show ¬ (false = true) by decide)] at H; exact H
               clear H
               have H := H1
               clear H1
               have H' := Aside0.mk H
               clear H
               go_wp2
               go_loopg [6] kj7 (fun kq v6 w' => ∃ (x6_4 : Int), v6 = .int .i64 x6_4 ∧ Aside0 (althinglaw05_Few.l2 kq x6_4 l0 (l0.length : Int) x9_1 ((rd_T29 l0 x9_1).f0) ((rd_T29 l0 x9_1).f1.f0) ((rd_T29 l0 x9_1).f1.f1) ((rd_T29 l0 x9_1).f2.f0) ((rd_T29 l0 x9_1).f2.f1) ((rd_T29 l0 x9_1).f3) ((rd_T29 l0 x9_1).f4) ((rd_T29 l0 x9_1).f5) ((rd_T29 l0 x9_1).f6) = some r) ∧ Aside0 (kq ≤ kj7) ∧ Aside0 (w'.heap[gb102]? = some (.cells #[.int .i64 ((rd_T29 l0 x9_1).f0), .int .i64 ((rd_T29 l0 x9_1).f1.f0), .int .i64 ((rd_T29 l0 x9_1).f1.f1), .int .i64 ((rd_T29 l0 x9_1).f2.f0), .int .i64 ((rd_T29 l0 x9_1).f2.f1), .int .i64 ((rd_T29 l0 x9_1).f3), (.slice A101_6 ((rd_T29 l0 x9_1).f4).length c101_6), (.slice A101_7 ((rd_T29 l0 x9_1).f5).length c101_7), .bool ((rd_T29 l0 x9_1).f6)] 29 (0, 0))) ∧ Aside0 (Below w.heap.size w w'))
               case atStart => exact ⟨(0), (by first | rfl | (simp; done) | (simp [*]; done)), H', ⟨Nat.le_refl _⟩, ⟨by (with_reducible repeat (first | refine blk_drewN ?_ _ | refine blk_drew ?_ | refine blk_alloc ?_ _)); exact BK102.out⟩, ⟨by repeat (first | (with_reducible first | exact HB.out | apply below_alloc | apply pw_below_drewN | apply below_drew1 | refine below_set ?_ GE102.out) | exact HB.out)⟩⟩
               case round =>
                clear H'
                try clear c1
                try clear p1
                try clear q1
                try clear hx1
                try clear c2
                try clear c2b0
                try clear p2
                try clear c3
                try clear c3b0
                try clear c4
                try clear c4b0
                try clear p6
                try clear c8
                try clear c9
                try clear c9b0
                try clear c10
                try clear p10
                try clear q10
                try clear hx10
                try clear c12
                try clear c13
                try clear c13b0
                try clear c14
                try clear c14b0
                try clear c15
                try clear c15b0
                try clear c15b1
                try clear hcz10_0
                try clear hcz10_1
                try clear hcz10_2
                try clear hcz10_3
                try clear hcz10_4
                try clear hcz10_5
                try clear hcz10_6
                try clear hcz10_7
                try clear hcz10_8
                try clear hcz11_0
                try clear hcz11_1
                try clear hcz11_2
                try clear hcz11_3
                try clear hcz11_4
                try clear hcz11_5
                try clear hcz11_6
                try clear hcz11_7
                try clear hcz11_8
                try clear hcz16_0
                try clear hcz16_1
                try clear hcz16_2
                try clear hcz16_3
                try clear hcz16_4
                try clear hcz16_5
                try clear hcz16_6
                try clear hcz16_7
                try clear hcz16_8
                try clear hcz17_0
                try clear hcz17_1
                try clear hcz17_2
                try clear hcz17_3
                try clear hcz17_4
                try clear hcz17_5
                try clear hcz17_6
                try clear hcz17_7
                try clear hcz17_8
                try clear hcz6_0
                try clear hcz6_1
                try clear hcz6_2
                try clear hcz6_3
                try clear hcz6_4
                try clear hcz6_5
                try clear hcz6_6
                try clear hcz6_7
                try clear hcz6_8
                try clear hfz10_0
                try clear hfz10_1
                try clear hfz10_2
                try clear hfz10_3
                try clear hfz10_4
                try clear hfz10_5
                try clear hfz10_6
                try clear hfz10_7
                try clear hfz10_8
                try clear hfz11_0
                try clear hfz11_1
                try clear hfz11_2
                try clear hfz11_3
                try clear hfz11_4
                try clear hfz11_5
                try clear hfz11_6
                try clear hfz11_7
                try clear hfz11_8
                try clear hfz16_0
                try clear hfz16_1
                try clear hfz16_2
                try clear hfz16_3
                try clear hfz16_4
                try clear hfz16_5
                try clear hfz16_6
                try clear hfz16_7
                try clear hfz16_8
                try clear hfz17_0
                try clear hfz17_1
                try clear hfz17_2
                try clear hfz17_3
                try clear hfz17_4
                try clear hfz17_5
                try clear hfz17_6
                try clear hfz17_7
                try clear hfz17_8
                try clear hfz6_0
                try clear hfz6_1
                try clear hfz6_2
                try clear hfz6_3
                try clear hfz6_4
                try clear hfz6_5
                try clear hfz6_6
                try clear hfz6_7
                try clear hfz6_8
                try clear hx101_0
                try clear hx101_1
                try clear hx101_2
                try clear hx101_3
                try clear hx101_4
                try clear hx101_5
                try clear hx101_6
                try clear hx101_7
                try clear hx101_8
                try clear hx103_0
                try clear hx103_1
                try clear hx103_2
                try clear p1
                try clear p10
                try clear p101
                try clear p103
                try clear p2
                try clear q1
                try clear q10
                try clear q101
                try clear q103
                (try clear BK102)
                obtain ⟨x6_4, rfl, HA, HK4, BK102, HB⟩ := hrel
                cases gk with
                | zero => exact absurd HA.out (by simp [althinglaw05_Few.l2])
                | succ k4 =>
                 have H := HA.out
                 clear HA
                 simp only [althinglaw05_Few.l2] at H
                 have HC18 := Aside0.mk H
                 clear H
                 go_upto_region 10 with (fail)
                 go_cut [40] (fun v40 wc => ∃ (kq : Nat) (x40_17 : Bool), v40 = .bool x40_17 ∧ Aside0 (althinglaw05_Few.j4 kq x6_4 l0 (l0.length : Int) x9_1 x40_17 ((rd_T29 l0 x9_1).f0) ((rd_T29 l0 x9_1).f1.f0) ((rd_T29 l0 x9_1).f1.f1) ((rd_T29 l0 x9_1).f2.f0) ((rd_T29 l0 x9_1).f2.f1) ((rd_T29 l0 x9_1).f3) ((rd_T29 l0 x9_1).f4) ((rd_T29 l0 x9_1).f5) ((rd_T29 l0 x9_1).f6) = some r) ∧ Aside0 (kq ≤ k4) ∧ Aside0 (wc.heap[gb102]? = some (.cells #[.int .i64 ((rd_T29 l0 x9_1).f0), .int .i64 ((rd_T29 l0 x9_1).f1.f0), .int .i64 ((rd_T29 l0 x9_1).f1.f1), .int .i64 ((rd_T29 l0 x9_1).f2.f0), .int .i64 ((rd_T29 l0 x9_1).f2.f1), .int .i64 ((rd_T29 l0 x9_1).f3), (.slice A101_6 ((rd_T29 l0 x9_1).f4).length c101_6), (.slice A101_7 ((rd_T29 l0 x9_1).f5).length c101_7), .bool ((rd_T29 l0 x9_1).f6)] 29 (0, 0))) ∧ Aside0 (Below w.heap.size w wc))
                 case first =>
                  have H := HC18.out
                  clear HC18
                  by_cases c19 : x6_4 < (((rd_T29 l0 x9_1).f5).length : Int)
                  · rw [if_pos c19] at H
                    have c19b0 : decide (x6_4 < (((rd_T29 l0 x9_1).f5).length : Int)) = true := decide_eq_true c19
                    clear c19
                    (first | rw [c19b0] | (simp only [i64_w, i32_w]; rw [c19b0]) | skip)
                    have H' := Aside0.mk H
                    clear H
                    have hcz20_0 : wr.cell? ⟨gb102, 0, none⟩ = some (.int .i64 ((rd_T29 l0 x9_1).f0)) := (blk_cell BK102.out 0).trans rfl
                    have hcz20_1 : wr.cell? ⟨gb102, 1, none⟩ = some (.int .i64 ((rd_T29 l0 x9_1).f1.f0)) := (blk_cell BK102.out 1).trans rfl
                    have hcz20_2 : wr.cell? ⟨gb102, 2, none⟩ = some (.int .i64 ((rd_T29 l0 x9_1).f1.f1)) := (blk_cell BK102.out 2).trans rfl
                    have hcz20_3 : wr.cell? ⟨gb102, 3, none⟩ = some (.int .i64 ((rd_T29 l0 x9_1).f2.f0)) := (blk_cell BK102.out 3).trans rfl
                    have hcz20_4 : wr.cell? ⟨gb102, 4, none⟩ = some (.int .i64 ((rd_T29 l0 x9_1).f2.f1)) := (blk_cell BK102.out 4).trans rfl
                    have hcz20_5 : wr.cell? ⟨gb102, 5, none⟩ = some (.int .i64 ((rd_T29 l0 x9_1).f3)) := (blk_cell BK102.out 5).trans rfl
                    have hcz20_6 : wr.cell? ⟨gb102, 6, none⟩ = some (.slice A101_6 ((rd_T29 l0 x9_1).f4).length c101_6) := (blk_cell BK102.out 6).trans rfl
                    have hcz20_7 : wr.cell? ⟨gb102, 7, none⟩ = some (.slice A101_7 ((rd_T29 l0 x9_1).f5).length c101_7) := (blk_cell BK102.out 7).trans rfl
                    have hcz20_8 : wr.cell? ⟨gb102, 8, none⟩ = some (.bool ((rd_T29 l0 x9_1).f6)) := (blk_cell BK102.out 8).trans rfl
                    have hfz20_0 := blk_frozen BK102.out 0
                    have hfz20_1 := blk_frozen BK102.out 1
                    have hfz20_2 := blk_frozen BK102.out 2
                    have hfz20_3 := blk_frozen BK102.out 3
                    have hfz20_4 := blk_frozen BK102.out 4
                    have hfz20_5 := blk_frozen BK102.out 5
                    have hfz20_6 := blk_frozen BK102.out 6
                    have hfz20_7 := blk_frozen BK102.out 7
                    have hfz20_8 := blk_frozen BK102.out 8
                    go_wp2
                    go_meet
                    case rel => exact ⟨_, (decide (x6_4 ≤ 20)), (by first | rfl | (simp; done) | (simp [*]; done)), H', ⟨by have := HK1.out; have := HK2.out; have := HJ7.out; have := HK4.out; first | omega | exact Nat.le_refl _⟩, ⟨by (with_reducible repeat (first | refine blk_drewN ?_ _ | refine blk_drew ?_ | refine blk_alloc ?_ _)); exact BK102.out⟩, ⟨by repeat (first | (with_reducible first | exact HB.out | apply below_alloc | apply pw_below_drewN | apply below_drew1 | refine below_set ?_ GE102.out) | exact HB.out)⟩⟩
                  · rw [if_neg c19] at H
                    have c19b0 : decide (x6_4 < (((rd_T29 l0 x9_1).f5).length : Int)) = false := decide_eq_false c19
                    clear c19
                    (first | rw [c19b0] | (simp only [i64_w, i32_w]; rw [c19b0]) | skip)
                    have H' := Aside0.mk H
                    clear H
                    have hcz21_0 : wr.cell? ⟨gb102, 0, none⟩ = some (.int .i64 ((rd_T29 l0 x9_1).f0)) := (blk_cell BK102.out 0).trans rfl
                    have hcz21_1 : wr.cell? ⟨gb102, 1, none⟩ = some (.int .i64 ((rd_T29 l0 x9_1).f1.f0)) := (blk_cell BK102.out 1).trans rfl
                    have hcz21_2 : wr.cell? ⟨gb102, 2, none⟩ = some (.int .i64 ((rd_T29 l0 x9_1).f1.f1)) := (blk_cell BK102.out 2).trans rfl
                    have hcz21_3 : wr.cell? ⟨gb102, 3, none⟩ = some (.int .i64 ((rd_T29 l0 x9_1).f2.f0)) := (blk_cell BK102.out 3).trans rfl
                    have hcz21_4 : wr.cell? ⟨gb102, 4, none⟩ = some (.int .i64 ((rd_T29 l0 x9_1).f2.f1)) := (blk_cell BK102.out 4).trans rfl
                    have hcz21_5 : wr.cell? ⟨gb102, 5, none⟩ = some (.int .i64 ((rd_T29 l0 x9_1).f3)) := (blk_cell BK102.out 5).trans rfl
                    have hcz21_6 : wr.cell? ⟨gb102, 6, none⟩ = some (.slice A101_6 ((rd_T29 l0 x9_1).f4).length c101_6) := (blk_cell BK102.out 6).trans rfl
                    have hcz21_7 : wr.cell? ⟨gb102, 7, none⟩ = some (.slice A101_7 ((rd_T29 l0 x9_1).f5).length c101_7) := (blk_cell BK102.out 7).trans rfl
                    have hcz21_8 : wr.cell? ⟨gb102, 8, none⟩ = some (.bool ((rd_T29 l0 x9_1).f6)) := (blk_cell BK102.out 8).trans rfl
                    have hfz21_0 := blk_frozen BK102.out 0
                    have hfz21_1 := blk_frozen BK102.out 1
                    have hfz21_2 := blk_frozen BK102.out 2
                    have hfz21_3 := blk_frozen BK102.out 3
                    have hfz21_4 := blk_frozen BK102.out 4
                    have hfz21_5 := blk_frozen BK102.out 5
                    have hfz21_6 := blk_frozen BK102.out 6
                    have hfz21_7 := blk_frozen BK102.out 7
                    have hfz21_8 := blk_frozen BK102.out 8
                    go_wp2
                    go_meet
                    case rel => exact ⟨_, (false), (by first | rfl | (simp; done) | (simp [*]; done)), H', ⟨by have := HK1.out; have := HK2.out; have := HJ7.out; have := HK4.out; first | omega | exact Nat.le_refl _⟩, ⟨by (with_reducible repeat (first | refine blk_drewN ?_ _ | refine blk_drew ?_ | refine blk_alloc ?_ _)); exact BK102.out⟩, ⟨by repeat (first | (with_reducible first | exact HB.out | apply below_alloc | apply pw_below_drewN | apply below_drew1 | refine below_set ?_ GE102.out) | exact HB.out)⟩⟩
                 case rest =>
                  clear HC18
                  try clear c1
                  try clear p1
                  try clear q1
                  try clear hx1
                  try clear c2
                  try clear c2b0
                  try clear p2
                  try clear c3
                  try clear c3b0
                  try clear c4
                  try clear c4b0
                  try clear p6
                  try clear c8
                  try clear c9
                  try clear c9b0
                  try clear c10
                  try clear p10
                  try clear q10
                  try clear hx10
                  try clear c12
                  try clear c13
                  try clear c13b0
                  try clear c14
                  try clear c14b0
                  try clear c15
                  try clear c15b0
                  try clear c15b1
                  try clear c19
                  try clear c19b0
                  try clear hcz10_0
                  try clear hcz10_1
                  try clear hcz10_2
                  try clear hcz10_3
                  try clear hcz10_4
                  try clear hcz10_5
                  try clear hcz10_6
                  try clear hcz10_7
                  try clear hcz10_8
                  try clear hcz11_0
                  try clear hcz11_1
                  try clear hcz11_2
                  try clear hcz11_3
                  try clear hcz11_4
                  try clear hcz11_5
                  try clear hcz11_6
                  try clear hcz11_7
                  try clear hcz11_8
                  try clear hcz16_0
                  try clear hcz16_1
                  try clear hcz16_2
                  try clear hcz16_3
                  try clear hcz16_4
                  try clear hcz16_5
                  try clear hcz16_6
                  try clear hcz16_7
                  try clear hcz16_8
                  try clear hcz17_0
                  try clear hcz17_1
                  try clear hcz17_2
                  try clear hcz17_3
                  try clear hcz17_4
                  try clear hcz17_5
                  try clear hcz17_6
                  try clear hcz17_7
                  try clear hcz17_8
                  try clear hcz20_0
                  try clear hcz20_1
                  try clear hcz20_2
                  try clear hcz20_3
                  try clear hcz20_4
                  try clear hcz20_5
                  try clear hcz20_6
                  try clear hcz20_7
                  try clear hcz20_8
                  try clear hcz21_0
                  try clear hcz21_1
                  try clear hcz21_2
                  try clear hcz21_3
                  try clear hcz21_4
                  try clear hcz21_5
                  try clear hcz21_6
                  try clear hcz21_7
                  try clear hcz21_8
                  try clear hcz6_0
                  try clear hcz6_1
                  try clear hcz6_2
                  try clear hcz6_3
                  try clear hcz6_4
                  try clear hcz6_5
                  try clear hcz6_6
                  try clear hcz6_7
                  try clear hcz6_8
                  try clear hfz10_0
                  try clear hfz10_1
                  try clear hfz10_2
                  try clear hfz10_3
                  try clear hfz10_4
                  try clear hfz10_5
                  try clear hfz10_6
                  try clear hfz10_7
                  try clear hfz10_8
                  try clear hfz11_0
                  try clear hfz11_1
                  try clear hfz11_2
                  try clear hfz11_3
                  try clear hfz11_4
                  try clear hfz11_5
                  try clear hfz11_6
                  try clear hfz11_7
                  try clear hfz11_8
                  try clear hfz16_0
                  try clear hfz16_1
                  try clear hfz16_2
                  try clear hfz16_3
                  try clear hfz16_4
                  try clear hfz16_5
                  try clear hfz16_6
                  try clear hfz16_7
                  try clear hfz16_8
                  try clear hfz17_0
                  try clear hfz17_1
                  try clear hfz17_2
                  try clear hfz17_3
                  try clear hfz17_4
                  try clear hfz17_5
                  try clear hfz17_6
                  try clear hfz17_7
                  try clear hfz17_8
                  try clear hfz20_0
                  try clear hfz20_1
                  try clear hfz20_2
                  try clear hfz20_3
                  try clear hfz20_4
                  try clear hfz20_5
                  try clear hfz20_6
                  try clear hfz20_7
                  try clear hfz20_8
                  try clear hfz21_0
                  try clear hfz21_1
                  try clear hfz21_2
                  try clear hfz21_3
                  try clear hfz21_4
                  try clear hfz21_5
                  try clear hfz21_6
                  try clear hfz21_7
                  try clear hfz21_8
                  try clear hfz6_0
                  try clear hfz6_1
                  try clear hfz6_2
                  try clear hfz6_3
                  try clear hfz6_4
                  try clear hfz6_5
                  try clear hfz6_6
                  try clear hfz6_7
                  try clear hfz6_8
                  try clear hx101_0
                  try clear hx101_1
                  try clear hx101_2
                  try clear hx101_3
                  try clear hx101_4
                  try clear hx101_5
                  try clear hx101_6
                  try clear hx101_7
                  try clear hx101_8
                  try clear hx103_0
                  try clear hx103_1
                  try clear hx103_2
                  try clear p1
                  try clear p10
                  try clear p101
                  try clear p103
                  try clear p2
                  try clear p6
                  try clear q1
                  try clear q10
                  try clear q101
                  try clear q103
                  obtain ⟨kq, x40_17, rfl, HA, HJ17, BK102, HB⟩ := hcut
                  cases kq with
                  | zero => exact absurd HA.out (by simp [althinglaw05_Few.j4])
                  | succ kj17 =>
                   have H := HA.out
                   clear HA
                   simp only [althinglaw05_Few.j4] at H
                   by_cases c22 : x40_17 = true
                   · subst c22
                     have H1 : (if 0 ≤ x6_4 then (if x6_4 < (((rd_T29 l0 x9_1).f5).length : Int) then (if (((rd_T40 ((rd_T29 l0 x9_1).f5) x6_4).f0).size : Int) > 100 then (some false) else (if (((rd_T40 ((rd_T29 l0 x9_1).f5) x6_4).f1).size : Int) > 100 then (some false) else (althinglaw05_Few.l2 kj17 (wrap64 (x6_4 + 1)) l0 (l0.length : Int) x9_1 ((rd_T29 l0 x9_1).f0) ((rd_T29 l0 x9_1).f1.f0) ((rd_T29 l0 x9_1).f1.f1) ((rd_T29 l0 x9_1).f2.f0) ((rd_T29 l0 x9_1).f2.f1) ((rd_T29 l0 x9_1).f3) ((rd_T29 l0 x9_1).f4) ((rd_T29 l0 x9_1).f5) ((rd_T29 l0 x9_1).f6)))) else (none)) else (none)) = some r := by rw [if_pos rfl] at H; exact H
                     clear H
                     have H := H1
                     clear H1
                     by_cases c23 : 0 ≤ x6_4
                     · rw [if_pos c23] at H
                       have c23b0 : decide (0 ≤ x6_4) = true := decide_eq_true c23
                       clear c23
                       by_cases c24 : x6_4 < (((rd_T29 l0 x9_1).f5).length : Int)
                       · rw [if_pos c24] at H
                         have c24b0 : decide (x6_4 < (((rd_T29 l0 x9_1).f5).length : Int)) = true := decide_eq_true c24
                         clear c24
                         by_cases c25 : (((rd_T40 ((rd_T29 l0 x9_1).f5) x6_4).f0).size : Int) > 100
                         · rw [if_pos c25] at H
                           have c25b0 : decide (100 < (((rd_T40 ((rd_T29 l0 x9_1).f5) x6_4).f0).size : Int)) = true := decide_eq_true c25
                           have c25b1 : decide (100 < ((rd_T40 ((rd_T29 l0 x9_1).f5) x6_4).f0).size) = true := decide_eq_true (by omega)
                           clear c25
                           obtain rfl := Option.some.inj H
                           have hcz26_0 : wc.cell? ⟨gb102, 0, none⟩ = some (.int .i64 ((rd_T29 l0 x9_1).f0)) := (blk_cell BK102.out 0).trans rfl
                           have hcz26_1 : wc.cell? ⟨gb102, 1, none⟩ = some (.int .i64 ((rd_T29 l0 x9_1).f1.f0)) := (blk_cell BK102.out 1).trans rfl
                           have hcz26_2 : wc.cell? ⟨gb102, 2, none⟩ = some (.int .i64 ((rd_T29 l0 x9_1).f1.f1)) := (blk_cell BK102.out 2).trans rfl
                           have hcz26_3 : wc.cell? ⟨gb102, 3, none⟩ = some (.int .i64 ((rd_T29 l0 x9_1).f2.f0)) := (blk_cell BK102.out 3).trans rfl
                           have hcz26_4 : wc.cell? ⟨gb102, 4, none⟩ = some (.int .i64 ((rd_T29 l0 x9_1).f2.f1)) := (blk_cell BK102.out 4).trans rfl
                           have hcz26_5 : wc.cell? ⟨gb102, 5, none⟩ = some (.int .i64 ((rd_T29 l0 x9_1).f3)) := (blk_cell BK102.out 5).trans rfl
                           have hcz26_6 : wc.cell? ⟨gb102, 6, none⟩ = some (.slice A101_6 ((rd_T29 l0 x9_1).f4).length c101_6) := (blk_cell BK102.out 6).trans rfl
                           have hcz26_7 : wc.cell? ⟨gb102, 7, none⟩ = some (.slice A101_7 ((rd_T29 l0 x9_1).f5).length c101_7) := (blk_cell BK102.out 7).trans rfl
                           have hcz26_8 : wc.cell? ⟨gb102, 8, none⟩ = some (.bool ((rd_T29 l0 x9_1).f6)) := (blk_cell BK102.out 8).trans rfl
                           have hfz26_0 := blk_frozen BK102.out 0
                           have hfz26_1 := blk_frozen BK102.out 1
                           have hfz26_2 := blk_frozen BK102.out 2
                           have hfz26_3 := blk_frozen BK102.out 3
                           have hfz26_4 := blk_frozen BK102.out 4
                           have hfz26_5 := blk_frozen BK102.out 5
                           have hfz26_6 := blk_frozen BK102.out 6
                           have hfz26_7 := blk_frozen BK102.out 7
                           have hfz26_8 := blk_frozen BK102.out 8
                           have p104 : 0 ≤ (x6_4 : Int) := of_decide_eq_true (by first | (with_reducible assumption) | assumption)
                           have q104 : x6_4 < (((rd_T29 l0 x9_1).f5).length : Int) := of_decide_eq_true (by first | (with_reducible assumption) | assumption)
                           obtain ⟨ad104, e104, hx104_0, hx104_1⟩ := at_T40 HR101_7.out x6_4 p104 q104
                           cases e104
                           replace hx104_0 := (HB.out.cell (World.block_lt_of_cell? w _ hx104_0)).trans hx104_0
                           replace hx104_1 := (HB.out.cell (World.block_lt_of_cell? w _ hx104_1)).trans hx104_1
                           replace p104 := eq_true p104
                           replace q104 := eq_true q104
                           go_wp2
                           go_ret
                           exact ⟨by first | rfl | (simp [errW_none, errW_some] <;> rfl) | (simp [*, errW_none, errW_some] <;> rfl), by repeat (first | (with_reducible first | exact HB.out | apply below_alloc | apply pw_below_drewN | apply below_drew1 | refine below_set ?_ GE102.out) | exact HB.out)⟩
                         · rw [if_neg c25] at H
                           have c25b0 : decide (100 < (((rd_T40 ((rd_T29 l0 x9_1).f5) x6_4).f0).size : Int)) = false := decide_eq_false c25
                           have c25b1 : decide (100 < ((rd_T40 ((rd_T29 l0 x9_1).f5) x6_4).f0).size) = false := decide_eq_false (by omega)
                           clear c25
                           by_cases c27 : (((rd_T40 ((rd_T29 l0 x9_1).f5) x6_4).f1).size : Int) > 100
                           · rw [if_pos c27] at H
                             have c27b0 : decide (100 < (((rd_T40 ((rd_T29 l0 x9_1).f5) x6_4).f1).size : Int)) = true := decide_eq_true c27
                             have c27b1 : decide (100 < ((rd_T40 ((rd_T29 l0 x9_1).f5) x6_4).f1).size) = true := decide_eq_true (by omega)
                             clear c27
                             obtain rfl := Option.some.inj H
                             have hcz28_0 : wc.cell? ⟨gb102, 0, none⟩ = some (.int .i64 ((rd_T29 l0 x9_1).f0)) := (blk_cell BK102.out 0).trans rfl
                             have hcz28_1 : wc.cell? ⟨gb102, 1, none⟩ = some (.int .i64 ((rd_T29 l0 x9_1).f1.f0)) := (blk_cell BK102.out 1).trans rfl
                             have hcz28_2 : wc.cell? ⟨gb102, 2, none⟩ = some (.int .i64 ((rd_T29 l0 x9_1).f1.f1)) := (blk_cell BK102.out 2).trans rfl
                             have hcz28_3 : wc.cell? ⟨gb102, 3, none⟩ = some (.int .i64 ((rd_T29 l0 x9_1).f2.f0)) := (blk_cell BK102.out 3).trans rfl
                             have hcz28_4 : wc.cell? ⟨gb102, 4, none⟩ = some (.int .i64 ((rd_T29 l0 x9_1).f2.f1)) := (blk_cell BK102.out 4).trans rfl
                             have hcz28_5 : wc.cell? ⟨gb102, 5, none⟩ = some (.int .i64 ((rd_T29 l0 x9_1).f3)) := (blk_cell BK102.out 5).trans rfl
                             have hcz28_6 : wc.cell? ⟨gb102, 6, none⟩ = some (.slice A101_6 ((rd_T29 l0 x9_1).f4).length c101_6) := (blk_cell BK102.out 6).trans rfl
                             have hcz28_7 : wc.cell? ⟨gb102, 7, none⟩ = some (.slice A101_7 ((rd_T29 l0 x9_1).f5).length c101_7) := (blk_cell BK102.out 7).trans rfl
                             have hcz28_8 : wc.cell? ⟨gb102, 8, none⟩ = some (.bool ((rd_T29 l0 x9_1).f6)) := (blk_cell BK102.out 8).trans rfl
                             have hfz28_0 := blk_frozen BK102.out 0
                             have hfz28_1 := blk_frozen BK102.out 1
                             have hfz28_2 := blk_frozen BK102.out 2
                             have hfz28_3 := blk_frozen BK102.out 3
                             have hfz28_4 := blk_frozen BK102.out 4
                             have hfz28_5 := blk_frozen BK102.out 5
                             have hfz28_6 := blk_frozen BK102.out 6
                             have hfz28_7 := blk_frozen BK102.out 7
                             have hfz28_8 := blk_frozen BK102.out 8
                             have p104 : 0 ≤ (x6_4 : Int) := of_decide_eq_true (by first | (with_reducible assumption) | assumption)
                             have q104 : x6_4 < (((rd_T29 l0 x9_1).f5).length : Int) := of_decide_eq_true (by first | (with_reducible assumption) | assumption)
                             obtain ⟨ad104, e104, hx104_0, hx104_1⟩ := at_T40 HR101_7.out x6_4 p104 q104
                             cases e104
                             replace hx104_0 := (HB.out.cell (World.block_lt_of_cell? w _ hx104_0)).trans hx104_0
                             replace hx104_1 := (HB.out.cell (World.block_lt_of_cell? w _ hx104_1)).trans hx104_1
                             replace p104 := eq_true p104
                             replace q104 := eq_true q104
                             have p105 : 0 ≤ (x6_4 : Int) := of_decide_eq_true (by first | (with_reducible assumption) | assumption)
                             have q105 : x6_4 < (((rd_T29 l0 x9_1).f5).length : Int) := of_decide_eq_true (by first | (with_reducible assumption) | assumption)
                             obtain ⟨ad105, e105, hx105_0, hx105_1⟩ := at_T40 HR101_7.out x6_4 p105 q105
                             obtain rfl : ad104 = ad105 := (by injection e105)
                             replace hx105_0 := (HB.out.cell (World.block_lt_of_cell? w _ hx105_0)).trans hx105_0
                             replace hx105_1 := (HB.out.cell (World.block_lt_of_cell? w _ hx105_1)).trans hx105_1
                             replace p105 := eq_true p105
                             replace q105 := eq_true q105
                             go_wp2
                             go_ret
                             exact ⟨by first | rfl | (simp [errW_none, errW_some] <;> rfl) | (simp [*, errW_none, errW_some] <;> rfl), by repeat (first | (with_reducible first | exact HB.out | apply below_alloc | apply pw_below_drewN | apply below_drew1 | refine below_set ?_ GE102.out) | exact HB.out)⟩
                           · rw [if_neg c27] at H
                             have c27b0 : decide (100 < (((rd_T40 ((rd_T29 l0 x9_1).f5) x6_4).f1).size : Int)) = false := decide_eq_false c27
                             have c27b1 : decide (100 < ((rd_T40 ((rd_T29 l0 x9_1).f5) x6_4).f1).size) = false := decide_eq_false (by omega)
                             clear c27
                             have H' := Aside0.mk H
                             clear H
                             have hcz29_0 : wc.cell? ⟨gb102, 0, none⟩ = some (.int .i64 ((rd_T29 l0 x9_1).f0)) := (blk_cell BK102.out 0).trans rfl
                             have hcz29_1 : wc.cell? ⟨gb102, 1, none⟩ = some (.int .i64 ((rd_T29 l0 x9_1).f1.f0)) := (blk_cell BK102.out 1).trans rfl
                             have hcz29_2 : wc.cell? ⟨gb102, 2, none⟩ = some (.int .i64 ((rd_T29 l0 x9_1).f1.f1)) := (blk_cell BK102.out 2).trans rfl
                             have hcz29_3 : wc.cell? ⟨gb102, 3, none⟩ = some (.int .i64 ((rd_T29 l0 x9_1).f2.f0)) := (blk_cell BK102.out 3).trans rfl
                             have hcz29_4 : wc.cell? ⟨gb102, 4, none⟩ = some (.int .i64 ((rd_T29 l0 x9_1).f2.f1)) := (blk_cell BK102.out 4).trans rfl
                             have hcz29_5 : wc.cell? ⟨gb102, 5, none⟩ = some (.int .i64 ((rd_T29 l0 x9_1).f3)) := (blk_cell BK102.out 5).trans rfl
                             have hcz29_6 : wc.cell? ⟨gb102, 6, none⟩ = some (.slice A101_6 ((rd_T29 l0 x9_1).f4).length c101_6) := (blk_cell BK102.out 6).trans rfl
                             have hcz29_7 : wc.cell? ⟨gb102, 7, none⟩ = some (.slice A101_7 ((rd_T29 l0 x9_1).f5).length c101_7) := (blk_cell BK102.out 7).trans rfl
                             have hcz29_8 : wc.cell? ⟨gb102, 8, none⟩ = some (.bool ((rd_T29 l0 x9_1).f6)) := (blk_cell BK102.out 8).trans rfl
                             have hfz29_0 := blk_frozen BK102.out 0
                             have hfz29_1 := blk_frozen BK102.out 1
                             have hfz29_2 := blk_frozen BK102.out 2
                             have hfz29_3 := blk_frozen BK102.out 3
                             have hfz29_4 := blk_frozen BK102.out 4
                             have hfz29_5 := blk_frozen BK102.out 5
                             have hfz29_6 := blk_frozen BK102.out 6
                             have hfz29_7 := blk_frozen BK102.out 7
                             have hfz29_8 := blk_frozen BK102.out 8
                             have p104 : 0 ≤ (x6_4 : Int) := of_decide_eq_true (by first | (with_reducible assumption) | assumption)
                             have q104 : x6_4 < (((rd_T29 l0 x9_1).f5).length : Int) := of_decide_eq_true (by first | (with_reducible assumption) | assumption)
                             obtain ⟨ad104, e104, hx104_0, hx104_1⟩ := at_T40 HR101_7.out x6_4 p104 q104
                             cases e104
                             replace hx104_0 := (HB.out.cell (World.block_lt_of_cell? w _ hx104_0)).trans hx104_0
                             replace hx104_1 := (HB.out.cell (World.block_lt_of_cell? w _ hx104_1)).trans hx104_1
                             replace p104 := eq_true p104
                             replace q104 := eq_true q104
                             have p105 : 0 ≤ (x6_4 : Int) := of_decide_eq_true (by first | (with_reducible assumption) | assumption)
                             have q105 : x6_4 < (((rd_T29 l0 x9_1).f5).length : Int) := of_decide_eq_true (by first | (with_reducible assumption) | assumption)
                             obtain ⟨ad105, e105, hx105_0, hx105_1⟩ := at_T40 HR101_7.out x6_4 p105 q105
                             obtain rfl : ad104 = ad105 := (by injection e105)
                             replace hx105_0 := (HB.out.cell (World.block_lt_of_cell? w _ hx105_0)).trans hx105_0
                             replace hx105_1 := (HB.out.cell (World.block_lt_of_cell? w _ hx105_1)).trans hx105_1
                             replace p105 := eq_true p105
                             replace q105 := eq_true q105
                             go_wp2
                             go_roundg kj17
                             case measure => have := HK1.out; have := HK2.out; have := HJ7.out; have := HK4.out; have := HJ17.out; omega
                             case rel => exact ⟨(wrap64 (x6_4 + 1)), (by first | rfl | (simp; done) | (simp [*]; done)), H', ⟨by have := HK1.out; have := HK2.out; have := HJ7.out; have := HK4.out; have := HJ17.out; omega⟩, ⟨by (with_reducible repeat (first | refine blk_drewN ?_ _ | refine blk_drew ?_ | refine blk_alloc ?_ _)); exact BK102.out⟩, ⟨by repeat (first | (with_reducible first | exact HB.out | apply below_alloc | apply pw_below_drewN | apply below_drew1 | refine below_set ?_ GE102.out) | exact HB.out)⟩⟩
                       · rw [if_neg c24] at H
                         exact absurd H (by simp)
                     · rw [if_neg c23] at H
                       exact absurd H (by simp)
                   · replace c22 := Bool.eq_false_iff.mpr c22
                     subst c22
                     have H1 : (if (((rd_T29 l0 x9_1).f4).length : Int) > 20 then (some false) else (if (((rd_T29 l0 x9_1).f5).length : Int) > 20 then (some false) else (althinglaw05_Few.l0 kj17 l0 (l0.length : Int) (wrap64 (x9_1 + 1))))) = some r := by rw [if_neg (show ¬ (false = true) by decide)] at H; exact H
                     clear H
                     have H := H1
                     clear H1
                     by_cases c30 : (((rd_T29 l0 x9_1).f4).length : Int) > 20
                     · rw [if_pos c30] at H
                       have c30b0 : decide (20 < (((rd_T29 l0 x9_1).f4).length : Int)) = true := decide_eq_true c30
                       have c30b1 : decide (20 < ((rd_T29 l0 x9_1).f4).length) = true := decide_eq_true (by omega)
                       clear c30
                       obtain rfl := Option.some.inj H
                       have hcz31_0 : wc.cell? ⟨gb102, 0, none⟩ = some (.int .i64 ((rd_T29 l0 x9_1).f0)) := (blk_cell BK102.out 0).trans rfl
                       have hcz31_1 : wc.cell? ⟨gb102, 1, none⟩ = some (.int .i64 ((rd_T29 l0 x9_1).f1.f0)) := (blk_cell BK102.out 1).trans rfl
                       have hcz31_2 : wc.cell? ⟨gb102, 2, none⟩ = some (.int .i64 ((rd_T29 l0 x9_1).f1.f1)) := (blk_cell BK102.out 2).trans rfl
                       have hcz31_3 : wc.cell? ⟨gb102, 3, none⟩ = some (.int .i64 ((rd_T29 l0 x9_1).f2.f0)) := (blk_cell BK102.out 3).trans rfl
                       have hcz31_4 : wc.cell? ⟨gb102, 4, none⟩ = some (.int .i64 ((rd_T29 l0 x9_1).f2.f1)) := (blk_cell BK102.out 4).trans rfl
                       have hcz31_5 : wc.cell? ⟨gb102, 5, none⟩ = some (.int .i64 ((rd_T29 l0 x9_1).f3)) := (blk_cell BK102.out 5).trans rfl
                       have hcz31_6 : wc.cell? ⟨gb102, 6, none⟩ = some (.slice A101_6 ((rd_T29 l0 x9_1).f4).length c101_6) := (blk_cell BK102.out 6).trans rfl
                       have hcz31_7 : wc.cell? ⟨gb102, 7, none⟩ = some (.slice A101_7 ((rd_T29 l0 x9_1).f5).length c101_7) := (blk_cell BK102.out 7).trans rfl
                       have hcz31_8 : wc.cell? ⟨gb102, 8, none⟩ = some (.bool ((rd_T29 l0 x9_1).f6)) := (blk_cell BK102.out 8).trans rfl
                       have hfz31_0 := blk_frozen BK102.out 0
                       have hfz31_1 := blk_frozen BK102.out 1
                       have hfz31_2 := blk_frozen BK102.out 2
                       have hfz31_3 := blk_frozen BK102.out 3
                       have hfz31_4 := blk_frozen BK102.out 4
                       have hfz31_5 := blk_frozen BK102.out 5
                       have hfz31_6 := blk_frozen BK102.out 6
                       have hfz31_7 := blk_frozen BK102.out 7
                       have hfz31_8 := blk_frozen BK102.out 8
                       go_wp2
                       go_ret
                       exact ⟨by first | rfl | (simp [errW_none, errW_some] <;> rfl) | (simp [*, errW_none, errW_some] <;> rfl), by repeat (first | (with_reducible first | exact HB.out | apply below_alloc | apply pw_below_drewN | apply below_drew1 | refine below_set ?_ GE102.out) | exact HB.out)⟩
                     · rw [if_neg c30] at H
                       have c30b0 : decide (20 < (((rd_T29 l0 x9_1).f4).length : Int)) = false := decide_eq_false c30
                       have c30b1 : decide (20 < ((rd_T29 l0 x9_1).f4).length) = false := decide_eq_false (by omega)
                       clear c30
                       by_cases c32 : (((rd_T29 l0 x9_1).f5).length : Int) > 20
                       · rw [if_pos c32] at H
                         have c32b0 : decide (20 < (((rd_T29 l0 x9_1).f5).length : Int)) = true := decide_eq_true c32
                         have c32b1 : decide (20 < ((rd_T29 l0 x9_1).f5).length) = true := decide_eq_true (by omega)
                         clear c32
                         obtain rfl := Option.some.inj H
                         have hcz33_0 : wc.cell? ⟨gb102, 0, none⟩ = some (.int .i64 ((rd_T29 l0 x9_1).f0)) := (blk_cell BK102.out 0).trans rfl
                         have hcz33_1 : wc.cell? ⟨gb102, 1, none⟩ = some (.int .i64 ((rd_T29 l0 x9_1).f1.f0)) := (blk_cell BK102.out 1).trans rfl
                         have hcz33_2 : wc.cell? ⟨gb102, 2, none⟩ = some (.int .i64 ((rd_T29 l0 x9_1).f1.f1)) := (blk_cell BK102.out 2).trans rfl
                         have hcz33_3 : wc.cell? ⟨gb102, 3, none⟩ = some (.int .i64 ((rd_T29 l0 x9_1).f2.f0)) := (blk_cell BK102.out 3).trans rfl
                         have hcz33_4 : wc.cell? ⟨gb102, 4, none⟩ = some (.int .i64 ((rd_T29 l0 x9_1).f2.f1)) := (blk_cell BK102.out 4).trans rfl
                         have hcz33_5 : wc.cell? ⟨gb102, 5, none⟩ = some (.int .i64 ((rd_T29 l0 x9_1).f3)) := (blk_cell BK102.out 5).trans rfl
                         have hcz33_6 : wc.cell? ⟨gb102, 6, none⟩ = some (.slice A101_6 ((rd_T29 l0 x9_1).f4).length c101_6) := (blk_cell BK102.out 6).trans rfl
                         have hcz33_7 : wc.cell? ⟨gb102, 7, none⟩ = some (.slice A101_7 ((rd_T29 l0 x9_1).f5).length c101_7) := (blk_cell BK102.out 7).trans rfl
                         have hcz33_8 : wc.cell? ⟨gb102, 8, none⟩ = some (.bool ((rd_T29 l0 x9_1).f6)) := (blk_cell BK102.out 8).trans rfl
                         have hfz33_0 := blk_frozen BK102.out 0
                         have hfz33_1 := blk_frozen BK102.out 1
                         have hfz33_2 := blk_frozen BK102.out 2
                         have hfz33_3 := blk_frozen BK102.out 3
                         have hfz33_4 := blk_frozen BK102.out 4
                         have hfz33_5 := blk_frozen BK102.out 5
                         have hfz33_6 := blk_frozen BK102.out 6
                         have hfz33_7 := blk_frozen BK102.out 7
                         have hfz33_8 := blk_frozen BK102.out 8
                         go_wp2
                         go_ret
                         exact ⟨by first | rfl | (simp [errW_none, errW_some] <;> rfl) | (simp [*, errW_none, errW_some] <;> rfl), by repeat (first | (with_reducible first | exact HB.out | apply below_alloc | apply pw_below_drewN | apply below_drew1 | refine below_set ?_ GE102.out) | exact HB.out)⟩
                       · rw [if_neg c32] at H
                         have c32b0 : decide (20 < (((rd_T29 l0 x9_1).f5).length : Int)) = false := decide_eq_false c32
                         have c32b1 : decide (20 < ((rd_T29 l0 x9_1).f5).length) = false := decide_eq_false (by omega)
                         clear c32
                         have H' := Aside0.mk H
                         clear H
                         have hcz34_0 : wc.cell? ⟨gb102, 0, none⟩ = some (.int .i64 ((rd_T29 l0 x9_1).f0)) := (blk_cell BK102.out 0).trans rfl
                         have hcz34_1 : wc.cell? ⟨gb102, 1, none⟩ = some (.int .i64 ((rd_T29 l0 x9_1).f1.f0)) := (blk_cell BK102.out 1).trans rfl
                         have hcz34_2 : wc.cell? ⟨gb102, 2, none⟩ = some (.int .i64 ((rd_T29 l0 x9_1).f1.f1)) := (blk_cell BK102.out 2).trans rfl
                         have hcz34_3 : wc.cell? ⟨gb102, 3, none⟩ = some (.int .i64 ((rd_T29 l0 x9_1).f2.f0)) := (blk_cell BK102.out 3).trans rfl
                         have hcz34_4 : wc.cell? ⟨gb102, 4, none⟩ = some (.int .i64 ((rd_T29 l0 x9_1).f2.f1)) := (blk_cell BK102.out 4).trans rfl
                         have hcz34_5 : wc.cell? ⟨gb102, 5, none⟩ = some (.int .i64 ((rd_T29 l0 x9_1).f3)) := (blk_cell BK102.out 5).trans rfl
                         have hcz34_6 : wc.cell? ⟨gb102, 6, none⟩ = some (.slice A101_6 ((rd_T29 l0 x9_1).f4).length c101_6) := (blk_cell BK102.out 6).trans rfl
                         have hcz34_7 : wc.cell? ⟨gb102, 7, none⟩ = some (.slice A101_7 ((rd_T29 l0 x9_1).f5).length c101_7) := (blk_cell BK102.out 7).trans rfl
                         have hcz34_8 : wc.cell? ⟨gb102, 8, none⟩ = some (.bool ((rd_T29 l0 x9_1).f6)) := (blk_cell BK102.out 8).trans rfl
                         have hfz34_0 := blk_frozen BK102.out 0
                         have hfz34_1 := blk_frozen BK102.out 1
                         have hfz34_2 := blk_frozen BK102.out 2
                         have hfz34_3 := blk_frozen BK102.out 3
                         have hfz34_4 := blk_frozen BK102.out 4
                         have hfz34_5 := blk_frozen BK102.out 5
                         have hfz34_6 := blk_frozen BK102.out 6
                         have hfz34_7 := blk_frozen BK102.out 7
                         have hfz34_8 := blk_frozen BK102.out 8
                         go_wp2
                         go_roundg kj17
                         case measure => have := HK1.out; have := HK2.out; have := HJ7.out; have := HK4.out; have := HJ17.out; omega
                         case rel => exact ⟨(wrap64 (x9_1 + 1)), (by first | rfl | (simp; done) | (simp [*]; done)), H', ⟨by have := HK1.out; have := HK2.out; have := HJ7.out; have := HK4.out; have := HJ17.out; omega⟩, ⟨by repeat (first | (with_reducible first | exact HB.out | apply below_alloc | apply pw_below_drewN | apply below_drew1 | refine below_set ?_ GE102.out) | exact HB.out)⟩⟩
       · rw [if_neg c4] at H
         exact absurd H (by simp)
     · rw [if_neg c3] at H
       exact absurd H (by simp)
   · rw [if_neg c2] at H
     have c2b0 : decide (x9_1 < (l0.length : Int)) = false := decide_eq_false c2
     clear c2
     obtain rfl := Option.some.inj H
     go_wp2
     go_ret
     exact ⟨by first | rfl | (simp [errW_none, errW_some] <;> rfl) | (simp [*, errW_none, errW_some] <;> rfl), by repeat (first | (with_reducible first | exact HB.out | apply below_alloc | apply pw_below_drewN | apply below_drew1) | exact HB.out)⟩
end Go.Proofs.Ytnjeeedndnfglaa.X
end
section
namespace Go.Proofs.Ytnjeeedndnfglaa.X
open Go.RowKit Go.Proofs.YtnjeeedndnfglaaW.PrintWords Go.Proofs.YtnjeeedndnfglaaW.PrintLast Go.Proofs.YtnjeeedndnfglaaW.PrintMore
attribute [local go_sem] max2_int min2_int max_two min_two max_three min_three max_four min_four   -- for this text's walks alone
set_option linter.unusedVariables false
set_option linter.unusedSimpArgs false
/-! ### command_read: function 32 -/
def command_read.l0 : Nat → List ByteArray → List (S38) → Int → Int → Option (List ByteArray)
 | 0, _, _, _, _ => none
 | k + 1, x3, x7, x8, x9 => if x9 < x8 then (if 0 ≤ x9 then (if x9 < (x7.length : Int) then (if x3.length < 8796093022208 then (command_read.l0 k (x3 ++ [(rd_T38 x7 x9).f0]) x7 x8 (wrap64 (x9 + 1))) else (none)) else (none)) else (none)) else (some x3)
def command_read.f (k : Nat) (a0_0 : Int) (a0_1 : Int) (a0_2 : Int) (a0_3 : Int) (a0_4 : Int) (a0_5 : Int) (l0_6 : List (S38)) (l0_7 : List (S40)) (a0_8 : Bool) : Option (List ByteArray) := command_read.l0 k ([] : List ByteArray) l0_6 (l0_6.length : Int) 0
theorem command_read.mono_l : ∀ k, (∀ y0 y1 y2 y3, LeO (command_read.l0 k y0 y1 y2 y3) (command_read.l0 (k + 1) y0 y1 y2 y3))
 | 0 => fun _ _ _ _ r h => by simp [command_read.l0] at h
 | k + 1 => by
  have ih0 := command_read.mono_l k
  · intro y0 y1 y2 y3
    unfold command_read.l0
    repeat' first
    | (with_reducible exact ih0 _ _ _ _)
    | (with_reducible exact LeO.refl _)
    | (with_reducible exact LeO.none _)
    | (with_reducible refine LeO.ite ?_ ?_)
    | (with_reducible refine LeO.bind ?_ (fun _ => ?_))
    | exact ih0 _ _ _ _
    | exact LeO.none _
    | refine LeO.ite ?_ ?_
    | refine LeO.bind ?_ (fun _ => ?_)
theorem command_read.mono : ∀ a0 a1 a2 a3 a4 a5 a6 a7 a8 k, LeO (command_read.f k a0 a1 a2 a3 a4 a5 a6 a7 a8) (command_read.f (k + 1) a0 a1 a2 a3 a4 a5 a6 a7 a8) := by
 intro a0 a1 a2 a3 a4 a5 a6 a7 a8 k
 have ih0 := command_read.mono_l k
 unfold command_read.f
 repeat' first
  | (with_reducible exact ih0 _ _ _ _)
  | (with_reducible exact LeO.refl _)
  | (with_reducible exact LeO.none _)
  | (with_reducible refine LeO.ite ?_ ?_)
  | (with_reducible refine LeO.bind ?_ (fun _ => ?_))
  | exact ih0 _ _ _ _
  | exact LeO.none _
  | refine LeO.ite ?_ ?_
  | refine LeO.bind ?_ (fun _ => ?_)
set_option maxHeartbeats 8000000 in
set_option maxRecDepth 100000 in
theorem command_read.calls (k : Nat) (a0_0 : Int) (a0_1 : Int) (a0_2 : Int) (a0_3 : Int) (a0_4 : Int) (a0_5 : Int) (A0_6 : Option Addr) (c0_6 : Nat) (l0_6 : List (S38)) (A0_7 : Option Addr) (c0_7 : Nat) (l0_7 : List (S40)) (a0_8 : Bool) (r : List ByteArray) (w : World) (hr0_6 : Kd.C k38 w A0_6 l0_6.length l0_6) (hc0_6 : l0_6.length ≤ c0_6) (hr0_7 : Kd.C k40 w A0_7 l0_7.length l0_7) (hc0_7 : l0_7.length ≤ c0_7) (h : command_read.f k a0_0 a0_1 a0_2 a0_3 a0_4 a0_5 l0_6 l0_7 a0_8 = some r) :
 Calls Try.prog 32 #[.agg #[.int .i64 a0_0, .int .i64 a0_1, .int .i64 a0_2, .int .i64 a0_3, .int .i64 a0_4, .int .i64 a0_5, .slice A0_6 l0_6.length c0_6, .slice A0_7 l0_7.length c0_7, .bool a0_8]] w fun e w' => ∃ v0_ : Value, e = .returned (v0_) ∧ Kd.R Kd.string 9 w' w.heap.size (fun _ => True) v0_ r ∧ Below w.heap.size w w' := by
 have hu29 := Try.underlying29
 have hu38 := Try.underlying38
 have HR0_6 := Aside0.mk hr0_6
 have HC0_6 := Aside0.mk hc0_6
 clear hr0_6 hc0_6
 have HR0_7 := Aside0.mk hr0_7
 have HC0_7 := Aside0.mk hc0_7
 clear hr0_7 hc0_7
 have HB := Aside0.mk (Below.refl w.heap.size w)
 have H : (command_read.l0 k ([] : List ByteArray) l0_6 (l0_6.length : Int) 0) = some r := h
 clear h
 have H' := Aside0.mk H
 clear H
 go_enter Try.func32, Try.ntmps32
 go_wp2_with (first | ((with_reducible refine gate_dst (N := 1) rfl ?_); refine box_event ?hg (N := 1) ?hd (cs := #[.int .i64 a0_0, .int .i64 a0_1, .int .i64 a0_2, .int .i64 a0_3, .int .i64 a0_4, .int .i64 a0_5, .slice A0_6 l0_6.length c0_6, .slice A0_7 l0_7.length c0_7, .bool a0_8]) (t := 29) ?hr ?_; (case hd => rfl); (case hg => rfl); (case hr => first | (go_simp; done) | (go_simp; rfl)); intro gb106 hg w2 hbox hb; have n0_ := Aside0.mk (below_step (by repeat (first | (with_reducible first | exact HB.out | apply below_alloc | apply pw_below_drewN | apply below_drew1) | exact HB.out)) hb); have n1_ := Aside0.mk (hbox); have n2_ := Aside0.mk ((by rw [hg]; exact (below_size (by repeat (first | (with_reducible first | exact HB.out | apply below_alloc | apply pw_below_drewN | apply below_drew1) | exact HB.out))) : w.heap.size ≤ gb106)); have n3_ := Aside0.mk ((by rw [hg]; exact (below_size (by repeat (first | (with_reducible first | exact HB.out | apply below_alloc | apply pw_below_drewN | apply below_drew1) | exact HB.out))) : w.heap.size ≤ gb106)); clear HB; have HB := n0_; have BK106 := n1_; have GW106 := n2_; have GE106 := n3_; clear n0_ n1_ n2_ n3_; clear hb hbox hg; have hcz3_0 : w2.cell? ⟨gb106, 0, none⟩ = some (.int .i64 a0_0) := (blk_cell BK106.out 0).trans rfl; have hcz3_1 : w2.cell? ⟨gb106, 1, none⟩ = some (.int .i64 a0_1) := (blk_cell BK106.out 1).trans rfl; have hcz3_2 : w2.cell? ⟨gb106, 2, none⟩ = some (.int .i64 a0_2) := (blk_cell BK106.out 2).trans rfl; have hcz3_3 : w2.cell? ⟨gb106, 3, none⟩ = some (.int .i64 a0_3) := (blk_cell BK106.out 3).trans rfl; have hcz3_4 : w2.cell? ⟨gb106, 4, none⟩ = some (.int .i64 a0_4) := (blk_cell BK106.out 4).trans rfl; have hcz3_5 : w2.cell? ⟨gb106, 5, none⟩ = some (.int .i64 a0_5) := (blk_cell BK106.out 5).trans rfl; have hcz3_6 : w2.cell? ⟨gb106, 6, none⟩ = some (.slice A0_6 l0_6.length c0_6) := (blk_cell BK106.out 6).trans rfl; have hcz3_7 : w2.cell? ⟨gb106, 7, none⟩ = some (.slice A0_7 l0_7.length c0_7) := (blk_cell BK106.out 7).trans rfl; have hcz3_8 : w2.cell? ⟨gb106, 8, none⟩ = some (.bool a0_8) := (blk_cell BK106.out 8).trans rfl; have hfz3_0 := blk_frozen BK106.out 0; have hfz3_1 := blk_frozen BK106.out 1; have hfz3_2 := blk_frozen BK106.out 2; have hfz3_3 := blk_frozen BK106.out 3; have hfz3_4 := blk_frozen BK106.out 4; have hfz3_5 := blk_frozen BK106.out 5; have hfz3_6 := blk_frozen BK106.out 6; have hfz3_7 := blk_frozen BK106.out 7; have hfz3_8 := blk_frozen BK106.out 8))
 go_loopg [3, 9] k (fun kq v3 v9 w' => ∃ (x3_1 : List ByteArray) (x9_1 : Int), v9 = .int .i64 x9_1 ∧ Aside0 (command_read.l0 kq x3_1 l0_6 (l0_6.length : Int) x9_1 = some r) ∧ Aside0 (kq ≤ k) ∧ Aside0 (Kd.R Kd.string 9 w' w.heap.size (fun _ => True) v3 x3_1) ∧ Aside0 (w'.heap[gb106]? = some (.cells #[.int .i64 a0_0, .int .i64 a0_1, .int .i64 a0_2, .int .i64 a0_3, .int .i64 a0_4, .int .i64 a0_5, (.slice A0_6 l0_6.length c0_6), (.slice A0_7 l0_7.length c0_7), .bool a0_8] 29 (0, 0))) ∧ Aside0 (Below w.heap.size w w'))
 case atStart => exact ⟨(([] : List ByteArray)), (0), (by first | rfl | (simp; done) | (simp [*]; done)), H', ⟨Nat.le_refl _⟩, ⟨by first | exact Kd.R_nil _ _ _ _ _ | exact Kd.N_nil _ _ _ _ _ | exact Kd.V_nil _ _ _ _ _ | exact Kd.Q_nil _ _ _ _ _ | exact Kd.S_nil _ _ _ _ _⟩, ⟨by (with_reducible repeat (first | refine blk_drewN ?_ _ | refine blk_drew ?_ | refine blk_alloc ?_ _)); exact BK106.out⟩, ⟨by repeat (first | (with_reducible first | exact HB.out | apply below_alloc | apply pw_below_drewN | apply below_drew1 | refine below_set ?_ GE106.out) | exact HB.out)⟩⟩
 case round =>
  clear H'
  try clear p2
  try clear c3
  try clear hcz3_0
  try clear hcz3_1
  try clear hcz3_2
  try clear hcz3_3
  try clear hcz3_4
  try clear hcz3_5
  try clear hcz3_6
  try clear hcz3_7
  try clear hcz3_8
  try clear hfz3_0
  try clear hfz3_1
  try clear hfz3_2
  try clear hfz3_3
  try clear hfz3_4
  try clear hfz3_5
  try clear hfz3_6
  try clear hfz3_7
  try clear hfz3_8
  (try clear BK106)
  obtain ⟨x3_1, x9_1, rfl, HA, HK1, HO_3, BK106, HB⟩ := hrel
  cases gk with
  | zero => exact absurd HA.out (by simp [command_read.l0])
  | succ k1 =>
   have H := HA.out
   clear HA
   simp only [command_read.l0] at H
   by_cases c4 : x9_1 < (l0_6.length : Int)
   · rw [if_pos c4] at H
     have c4b0 : decide (x9_1 < (l0_6.length : Int)) = true := decide_eq_true c4
     clear c4
     by_cases c5 : 0 ≤ x9_1
     · rw [if_pos c5] at H
       have c5b0 : decide (0 ≤ x9_1) = true := decide_eq_true c5
       clear c5
       by_cases c6 : x9_1 < (l0_6.length : Int)
       · rw [if_pos c6] at H
         have c6b0 : decide (x9_1 < (l0_6.length : Int)) = true := decide_eq_true c6
         clear c6
         by_cases c7 : x3_1.length < 8796093022208
         · rw [if_pos c7] at H
           have LMc7 := Aside0.mk c7
           clear c7
           obtain ⟨y109, hy109⟩ : ∃ y_ : List ByteArray, y_ = (x3_1 ++ [(rd_T38 l0_6 x9_1).f0]) := ⟨_, rfl⟩
           replace H : (command_read.l0 k1 y109 l0_6 (l0_6.length : Int) (wrap64 (x9_1 + 1))) = some r := by first | (rw [hy109]; with_reducible exact H) | (have H2_ := (Option.bind_some _ _).symm.trans H; rw [hy109]; with_reducible exact H2_) | (have H2_ := (Option.bind_some _ _).symm.trans H; with_reducible exact H2_) | with_reducible exact H | (rw [hy109]; exact H) | exact H
           have Ny109 := Aside0.mk hy109
           clear hy109
           have H' := Aside0.mk H
           clear H
           have p107 : 0 ≤ (x9_1 : Int) := of_decide_eq_true (by first | (with_reducible assumption) | assumption)
           have q107 : x9_1 < (l0_6.length : Int) := of_decide_eq_true (by first | (with_reducible assumption) | assumption)
           obtain ⟨ad107, e107, hx107_0, hx107_1, hx107_2⟩ := at_T38 HR0_6.out x9_1 p107 q107
           cases e107
           replace hx107_0 := (HB.out.cell (World.block_lt_of_cell? w _ hx107_0)).trans hx107_0
           replace hx107_1 := (HB.out.cell (World.block_lt_of_cell? w _ hx107_1)).trans hx107_1
           replace hx107_2 := (HB.out.cell (World.block_lt_of_cell? w _ hx107_2)).trans hx107_2
           replace p107 := eq_true p107
           replace q107 := eq_true q107
           go_wp2_with (first | ((with_reducible refine gate_dst (N := 5) rfl ?_); refine box_event ?hg (N := 5) ?hd (cs := #[.string (⟨#[]⟩ : ByteArray), .int .i64 0, .int .i64 0]) (t := 38) ?hr ?_; (case hd => rfl); (case hg => rfl); (case hr => first | (go_simp; done) | (go_simp; rfl)); intro gb108 hg w8 hbox hb; have n0_ := Aside0.mk (Kd.R_below (by (with_reducible repeat (first | apply Kd.R_alloc | apply Kd.R_drewN | apply Kd.R_drew)); exact HO_3.out) hb); have n1_ := Aside0.mk (blk_below (g := gb106) (o := .cells #[.int .i64 a0_0, .int .i64 a0_1, .int .i64 a0_2, .int .i64 a0_3, .int .i64 a0_4, .int .i64 a0_5, .slice (some ad107) l0_6.length c0_6, .slice A0_7 l0_7.length c0_7, .bool a0_8] 29 (0, 0)) (by (with_reducible repeat (first | refine blk_drewN ?_ _ | refine blk_drew ?_ | refine blk_alloc ?_ _)); exact BK106.out) hb); have n2_ := Aside0.mk (below_step (by repeat (first | (with_reducible first | exact HB.out | apply below_alloc | apply pw_below_drewN | apply below_drew1 | refine below_set ?_ GE106.out) | exact HB.out)) hb); have n3_ := Aside0.mk (hbox); have n4_ := Aside0.mk ((by rw [hg]; exact (below_size (by repeat (first | (with_reducible first | exact HB.out | apply below_alloc | apply pw_below_drewN | apply below_drew1 | refine below_set ?_ GE106.out) | exact HB.out))) : w.heap.size ≤ gb108)); have n5_ := Aside0.mk ((by rw [hg]; exact (below_size (by repeat (first | (with_reducible first | exact HB.out | apply below_alloc | apply pw_below_drewN | apply below_drew1 | refine below_set ?_ GE106.out) | exact HB.out))) : w.heap.size ≤ gb108)); have n6_ := Aside0.mk ((by rw [hg]; exact Nat.ne_of_lt (blk_lt (g := gb106) (o := .cells #[.int .i64 a0_0, .int .i64 a0_1, .int .i64 a0_2, .int .i64 a0_3, .int .i64 a0_4, .int .i64 a0_5, .slice (some ad107) l0_6.length c0_6, .slice A0_7 l0_7.length c0_7, .bool a0_8] 29 (0, 0)) (by (with_reducible repeat (first | refine blk_drewN ?_ _ | refine blk_drew ?_ | refine blk_alloc ?_ _)); exact BK106.out)) : gb106 ≠ gb108)); have n7_ := Aside0.mk ((by rw [hg]; exact Nat.ne_of_gt (blk_lt (g := gb106) (o := .cells #[.int .i64 a0_0, .int .i64 a0_1, .int .i64 a0_2, .int .i64 a0_3, .int .i64 a0_4, .int .i64 a0_5, .slice (some ad107) l0_6.length c0_6, .slice A0_7 l0_7.length c0_7, .bool a0_8] 29 (0, 0)) (by (with_reducible repeat (first | refine blk_drewN ?_ _ | refine blk_drew ?_ | refine blk_alloc ?_ _)); exact BK106.out)) : gb108 ≠ gb106)); clear HO_3; clear BK106; clear HB; have HO_3 := n0_; have BK106 := n1_; have HB := n2_; have BK108 := n3_; have GW108 := n4_; have GE108 := n5_; have NB106_108 := n6_; have NB108_106 := n7_; clear n0_ n1_ n2_ n3_ n4_ n5_ n6_ n7_; clear hb hbox hg; have hnb9 := NB108_106.out; have hnc9 := NB106_108.out; have hcz10_0 : w8.cell? ⟨gb108, 0, none⟩ = some (.string (⟨#[]⟩ : ByteArray)) := (blk_cell BK108.out 0).trans rfl; have hcz10_1 : w8.cell? ⟨gb108, 1, none⟩ = some (.int .i64 0) := (blk_cell BK108.out 1).trans rfl; have hcz10_2 : w8.cell? ⟨gb108, 2, none⟩ = some (.int .i64 0) := (blk_cell BK108.out 2).trans rfl; have hfz10_0 := blk_frozen BK108.out 0; have hfz10_1 := blk_frozen BK108.out 1; have hfz10_2 := blk_frozen BK108.out 2) | ((with_reducible refine gate_builtin (b := .append) (xs := #[.tmp 13, .tmp 16]) rfl ?_); at_builtin; refine Kd.R_append Kd.string (w0 := w) w.heap.size rfl (.tmp 13) (.tmp 16) 45 9 (.string ⟨#[]⟩) 16 rfl Try.underlying45 info9 rfl (by decide) (by omega) u3 x3_1 ((rd_T38 l0_6 x9_1).f0) [.string ((rd_T38 l0_6 x9_1).f0)] (fun _ => True) (fun _ => False) rfl (by first | (go_simp; done) | (go_simp; rfl)) ?aP (fun _ hk => hk.elim) ?aF ?aO ?aB ?aS ?aL ?_; (case aP => exact rfl); (case aB => exact (by repeat (first | (with_reducible first | exact HB.out | apply below_alloc | apply pw_below_drewN | apply below_drew1 | refine below_set ?_ GE106.out | refine below_set ?_ GE108.out) | exact HB.out))); (case aF => exact (fun _ _ => trivial)); (case aO => exact (by (with_reducible repeat (first | apply Kd.R_alloc | apply Kd.R_drewN | apply Kd.R_drew)); exact Kd.R_mono (Kd.R_far (p := ⟨gb108, 2, none⟩) (Kd.R_far (p := ⟨gb108, 1, none⟩) (Kd.R_far (p := ⟨gb108, 0, none⟩) (Kd.R_types HO_3.out BK108.out (by decide)) (fun _ hk => hk.2) (.string ((rd_T38 l0_6 x9_1).f0))) (fun _ hk => hk.2) (.int .i64 ((rd_T38 l0_6 x9_1).f1.f0))) (fun _ hk => hk.2) (.int .i64 ((rd_T38 l0_6 x9_1).f1.f1))) (fun _ hk => trivial))); (case aS => exact (below_size (by repeat (first | (with_reducible first | exact HB.out | apply below_alloc | apply pw_below_drewN | apply below_drew1 | refine below_set ?_ GE106.out | refine below_set ?_ GE108.out) | exact HB.out)))); (case aL => have := LMc7.out; omega); intro v110 w11 ho hb hg hat; rw [← Ny109.out] at ho; have n0_ := Aside0.mk (blk_grown (g := gb106) (o := .cells #[.int .i64 a0_0, .int .i64 a0_1, .int .i64 a0_2, .int .i64 a0_3, .int .i64 a0_4, .int .i64 a0_5, .slice (some ad107) l0_6.length c0_6, .slice A0_7 l0_7.length c0_7, .bool a0_8] 29 (0, 0)) (by (with_reducible repeat (first | refine blk_drewN ?_ _ | refine blk_drew ?_ | refine blk_alloc ?_ _)); refine blk_far ?_ NB106_108.out _; (with_reducible repeat (first | refine blk_drewN ?_ _ | refine blk_drew ?_ | refine blk_alloc ?_ _)); refine blk_far ?_ NB106_108.out _; (with_reducible repeat (first | refine blk_drewN ?_ _ | refine blk_drew ?_ | refine blk_alloc ?_ _)); refine blk_far ?_ NB106_108.out _; (with_reducible repeat (first | refine blk_drewN ?_ _ | refine blk_drew ?_ | refine blk_alloc ?_ _)); exact BK106.out) hg (Kd.R_ne HO_3.out BK106.out (by decide))); have n1_ := Aside0.mk (blk_grown (g := gb108) (o := .cells #[.string ((rd_T38 l0_6 x9_1).f0), .int .i64 ((rd_T38 l0_6 x9_1).f1.f0), .int .i64 ((rd_T38 l0_6 x9_1).f1.f1)] 38 (0, 0)) (by (with_reducible repeat (first | refine blk_drewN ?_ _ | refine blk_drew ?_ | refine blk_alloc ?_ _)); refine blk_put (cs := #[.string ((rd_T38 l0_6 x9_1).f0), .int .i64 ((rd_T38 l0_6 x9_1).f1.f0), .int .i64 0]) ?_ 2 _ rfl; (with_reducible repeat (first | refine blk_drewN ?_ _ | refine blk_drew ?_ | refine blk_alloc ?_ _)); refine blk_put (cs := #[.string ((rd_T38 l0_6 x9_1).f0), .int .i64 0, .int .i64 0]) ?_ 1 _ rfl; (with_reducible repeat (first | refine blk_drewN ?_ _ | refine blk_drew ?_ | refine blk_alloc ?_ _)); refine blk_put (cs := #[.string (⟨#[]⟩ : ByteArray), .int .i64 0, .int .i64 0]) ?_ 0 _ rfl; (with_reducible repeat (first | refine blk_drewN ?_ _ | refine blk_drew ?_ | refine blk_alloc ?_ _)); exact BK108.out) hg (Kd.R_ne HO_3.out BK108.out (by decide))); have n2_ := Aside0.mk (hb); have n3_ := Aside0.mk (ho); clear BK106; clear BK108; clear HB; clear HO_3; have BK106 := n0_; have BK108 := n1_; have HB := n2_; have HO111 := n3_; clear n0_ n1_ n2_ n3_; clear ho hb hg hat))
           go_roundg k1
           case measure => have := HK1.out; omega
           case rel => exact ⟨(y109), (wrap64 (x9_1 + 1)), (by first | rfl | (simp; done) | (simp [*]; done)), H', ⟨by have := HK1.out; omega⟩, ⟨by (with_reducible repeat (first | apply Kd.R_alloc | apply Kd.R_drewN | apply Kd.R_drew)); exact HO111.out⟩, ⟨by (with_reducible repeat (first | refine blk_drewN ?_ _ | refine blk_drew ?_ | refine blk_alloc ?_ _)); exact BK106.out⟩, ⟨by repeat (first | (with_reducible first | exact HB.out | apply below_alloc | apply pw_below_drewN | apply below_drew1 | refine below_set ?_ GE106.out | refine below_set ?_ GE108.out) | exact HB.out)⟩⟩
         · rw [if_neg c7] at H
           exact absurd H (by simp)
       · rw [if_neg c6] at H
         exact absurd H (by simp)
     · rw [if_neg c5] at H
       exact absurd H (by simp)
   · rw [if_neg c4] at H
     have c4b0 : decide (x9_1 < (l0_6.length : Int)) = false := decide_eq_false c4
     clear c4
     obtain rfl := Option.some.inj H
     go_wp2
     go_ret
     exact ⟨_, by first | rfl | (simp [errW_none, errW_some] <;> rfl) | (simp [*, errW_none, errW_some] <;> rfl), by (with_reducible repeat (first | apply Kd.R_alloc | apply Kd.R_drewN | apply Kd.R_drew)); exact HO_3.out, by repeat (first | (with_reducible first | exact HB.out | apply below_alloc | apply pw_below_drewN | apply below_drew1 | refine below_set ?_ GE106.out) | exact HB.out)⟩
end Go.Proofs.Ytnjeeedndnfglaa.X
end
section
namespace Go.Proofs.Ytnjeeedndnfglaa.X
open Go.RowKit Go.Proofs.YtnjeeedndnfglaaW.PrintWords Go.Proofs.YtnjeeedndnfglaaW.PrintLast Go.Proofs.YtnjeeedndnfglaaW.PrintMore
attribute [local go_sem] max2_int min2_int max_two min_two max_three min_three max_four min_four   -- for this text's walks alone
set_option linter.unusedVariables false
set_option linter.unusedSimpArgs false
/-! ### command_written: function 33 -/
def command_written.l0 : Nat → List ByteArray → List (S40) → Int → Int → Option (List ByteArray)
 | 0, _, _, _, _ => none
 | k + 1, x3, x7, x8, x9 => if x9 < x8 then (if 0 ≤ x9 then (if x9 < (x7.length : Int) then (if x3.length < 8796093022208 then (command_written.l0 k (x3 ++ [(rd_T40 x7 x9).f0]) x7 x8 (wrap64 (x9 + 1))) else (none)) else (none)) else (none)) else (some x3)
def command_written.f (k : Nat) (a0_0 : Int) (a0_1 : Int) (a0_2 : Int) (a0_3 : Int) (a0_4 : Int) (a0_5 : Int) (l0_6 : List (S38)) (l0_7 : List (S40)) (a0_8 : Bool) : Option (List ByteArray) := command_written.l0 k ([] : List ByteArray) l0_7 (l0_7.length : Int) 0
theorem command_written.mono_l : ∀ k, (∀ y0 y1 y2 y3, LeO (command_written.l0 k y0 y1 y2 y3) (command_written.l0 (k + 1) y0 y1 y2 y3))
 | 0 => fun _ _ _ _ r h => by simp [command_written.l0] at h
 | k + 1 => by
  have ih0 := command_written.mono_l k
  · intro y0 y1 y2 y3
    unfold command_written.l0
    repeat' first
    | (with_reducible exact ih0 _ _ _ _)
    | (with_reducible exact LeO.refl _)
    | (with_reducible exact LeO.none _)
    | (with_reducible refine LeO.ite ?_ ?_)
    | (with_reducible refine LeO.bind ?_ (fun _ => ?_))
    | exact ih0 _ _ _ _
    | exact LeO.none _
    | refine LeO.ite ?_ ?_
    | refine LeO.bind ?_ (fun _ => ?_)
theorem command_written.mono : ∀ a0 a1 a2 a3 a4 a5 a6 a7 a8 k, LeO (command_written.f k a0 a1 a2 a3 a4 a5 a6 a7 a8) (command_written.f (k + 1) a0 a1 a2 a3 a4 a5 a6 a7 a8) := by
 intro a0 a1 a2 a3 a4 a5 a6 a7 a8 k
 have ih0 := command_written.mono_l k
 unfold command_written.f
 repeat' first
  | (with_reducible exact ih0 _ _ _ _)
  | (with_reducible exact LeO.refl _)
  | (with_reducible exact LeO.none _)
  | (with_reducible refine LeO.ite ?_ ?_)
  | (with_reducible refine LeO.bind ?_ (fun _ => ?_))
  | exact ih0 _ _ _ _
  | exact LeO.none _
  | refine LeO.ite ?_ ?_
  | refine LeO.bind ?_ (fun _ => ?_)
set_option maxHeartbeats 8000000 in
set_option maxRecDepth 100000 in
theorem command_written.calls (k : Nat) (a0_0 : Int) (a0_1 : Int) (a0_2 : Int) (a0_3 : Int) (a0_4 : Int) (a0_5 : Int) (A0_6 : Option Addr) (c0_6 : Nat) (l0_6 : List (S38)) (A0_7 : Option Addr) (c0_7 : Nat) (l0_7 : List (S40)) (a0_8 : Bool) (r : List ByteArray) (w : World) (hr0_6 : Kd.C k38 w A0_6 l0_6.length l0_6) (hc0_6 : l0_6.length ≤ c0_6) (hr0_7 : Kd.C k40 w A0_7 l0_7.length l0_7) (hc0_7 : l0_7.length ≤ c0_7) (h : command_written.f k a0_0 a0_1 a0_2 a0_3 a0_4 a0_5 l0_6 l0_7 a0_8 = some r) :
 Calls Try.prog 33 #[.agg #[.int .i64 a0_0, .int .i64 a0_1, .int .i64 a0_2, .int .i64 a0_3, .int .i64 a0_4, .int .i64 a0_5, .slice A0_6 l0_6.length c0_6, .slice A0_7 l0_7.length c0_7, .bool a0_8]] w fun e w' => ∃ v0_ : Value, e = .returned (v0_) ∧ Kd.R Kd.string 9 w' w.heap.size (fun _ => True) v0_ r ∧ Below w.heap.size w w' := by
 have hu29 := Try.underlying29
 have hu40 := Try.underlying40
 have HR0_6 := Aside0.mk hr0_6
 have HC0_6 := Aside0.mk hc0_6
 clear hr0_6 hc0_6
 have HR0_7 := Aside0.mk hr0_7
 have HC0_7 := Aside0.mk hc0_7
 clear hr0_7 hc0_7
 have HB := Aside0.mk (Below.refl w.heap.size w)
 have H : (command_written.l0 k ([] : List ByteArray) l0_7 (l0_7.length : Int) 0) = some r := h
 clear h
 have H' := Aside0.mk H
 clear H
 go_enter Try.func33, Try.ntmps33
 go_wp2_with (first | ((with_reducible refine gate_dst (N := 1) rfl ?_); refine box_event ?hg (N := 1) ?hd (cs := #[.int .i64 a0_0, .int .i64 a0_1, .int .i64 a0_2, .int .i64 a0_3, .int .i64 a0_4, .int .i64 a0_5, .slice A0_6 l0_6.length c0_6, .slice A0_7 l0_7.length c0_7, .bool a0_8]) (t := 29) ?hr ?_; (case hd => rfl); (case hg => rfl); (case hr => first | (go_simp; done) | (go_simp; rfl)); intro gb112 hg w2 hbox hb; have n0_ := Aside0.mk (below_step (by repeat (first | (with_reducible first | exact HB.out | apply below_alloc | apply pw_below_drewN | apply below_drew1) | exact HB.out)) hb); have n1_ := Aside0.mk (hbox); have n2_ := Aside0.mk ((by rw [hg]; exact (below_size (by repeat (first | (with_reducible first | exact HB.out | apply below_alloc | apply pw_below_drewN | apply below_drew1) | exact HB.out))) : w.heap.size ≤ gb112)); have n3_ := Aside0.mk ((by rw [hg]; exact (below_size (by repeat (first | (with_reducible first | exact HB.out | apply below_alloc | apply pw_below_drewN | apply below_drew1) | exact HB.out))) : w.heap.size ≤ gb112)); clear HB; have HB := n0_; have BK112 := n1_; have GW112 := n2_; have GE112 := n3_; clear n0_ n1_ n2_ n3_; clear hb hbox hg; have hcz3_0 : w2.cell? ⟨gb112, 0, none⟩ = some (.int .i64 a0_0) := (blk_cell BK112.out 0).trans rfl; have hcz3_1 : w2.cell? ⟨gb112, 1, none⟩ = some (.int .i64 a0_1) := (blk_cell BK112.out 1).trans rfl; have hcz3_2 : w2.cell? ⟨gb112, 2, none⟩ = some (.int .i64 a0_2) := (blk_cell BK112.out 2).trans rfl; have hcz3_3 : w2.cell? ⟨gb112, 3, none⟩ = some (.int .i64 a0_3) := (blk_cell BK112.out 3).trans rfl; have hcz3_4 : w2.cell? ⟨gb112, 4, none⟩ = some (.int .i64 a0_4) := (blk_cell BK112.out 4).trans rfl; have hcz3_5 : w2.cell? ⟨gb112, 5, none⟩ = some (.int .i64 a0_5) := (blk_cell BK112.out 5).trans rfl; have hcz3_6 : w2.cell? ⟨gb112, 6, none⟩ = some (.slice A0_6 l0_6.length c0_6) := (blk_cell BK112.out 6).trans rfl; have hcz3_7 : w2.cell? ⟨gb112, 7, none⟩ = some (.slice A0_7 l0_7.length c0_7) := (blk_cell BK112.out 7).trans rfl; have hcz3_8 : w2.cell? ⟨gb112, 8, none⟩ = some (.bool a0_8) := (blk_cell BK112.out 8).trans rfl; have hfz3_0 := blk_frozen BK112.out 0; have hfz3_1 := blk_frozen BK112.out 1; have hfz3_2 := blk_frozen BK112.out 2; have hfz3_3 := blk_frozen BK112.out 3; have hfz3_4 := blk_frozen BK112.out 4; have hfz3_5 := blk_frozen BK112.out 5; have hfz3_6 := blk_frozen BK112.out 6; have hfz3_7 := blk_frozen BK112.out 7; have hfz3_8 := blk_frozen BK112.out 8))
 go_loopg [3, 9] k (fun kq v3 v9 w' => ∃ (x3_1 : List ByteArray) (x9_1 : Int), v9 = .int .i64 x9_1 ∧ Aside0 (command_written.l0 kq x3_1 l0_7 (l0_7.length : Int) x9_1 = some r) ∧ Aside0 (kq ≤ k) ∧ Aside0 (Kd.R Kd.string 9 w' w.heap.size (fun _ => True) v3 x3_1) ∧ Aside0 (w'.heap[gb112]? = some (.cells #[.int .i64 a0_0, .int .i64 a0_1, .int .i64 a0_2, .int .i64 a0_3, .int .i64 a0_4, .int .i64 a0_5, (.slice A0_6 l0_6.length c0_6), (.slice A0_7 l0_7.length c0_7), .bool a0_8] 29 (0, 0))) ∧ Aside0 (Below w.heap.size w w'))
 case atStart => exact ⟨(([] : List ByteArray)), (0), (by first | rfl | (simp; done) | (simp [*]; done)), H', ⟨Nat.le_refl _⟩, ⟨by first | exact Kd.R_nil _ _ _ _ _ | exact Kd.N_nil _ _ _ _ _ | exact Kd.V_nil _ _ _ _ _ | exact Kd.Q_nil _ _ _ _ _ | exact Kd.S_nil _ _ _ _ _⟩, ⟨by (with_reducible repeat (first | refine blk_drewN ?_ _ | refine blk_drew ?_ | refine blk_alloc ?_ _)); exact BK112.out⟩, ⟨by repeat (first | (with_reducible first | exact HB.out | apply below_alloc | apply pw_below_drewN | apply below_drew1 | refine below_set ?_ GE112.out) | exact HB.out)⟩⟩
 case round =>
  clear H'
  try clear p2
  try clear c3
  try clear hcz3_0
  try clear hcz3_1
  try clear hcz3_2
  try clear hcz3_3
  try clear hcz3_4
  try clear hcz3_5
  try clear hcz3_6
  try clear hcz3_7
  try clear hcz3_8
  try clear hfz3_0
  try clear hfz3_1
  try clear hfz3_2
  try clear hfz3_3
  try clear hfz3_4
  try clear hfz3_5
  try clear hfz3_6
  try clear hfz3_7
  try clear hfz3_8
  (try clear BK112)
  obtain ⟨x3_1, x9_1, rfl, HA, HK1, HO_3, BK112, HB⟩ := hrel
  cases gk with
  | zero => exact absurd HA.out (by simp [command_written.l0])
  | succ k1 =>
   have H := HA.out
   clear HA
   simp only [command_written.l0] at H
   by_cases c4 : x9_1 < (l0_7.length : Int)
   · rw [if_pos c4] at H
     have c4b0 : decide (x9_1 < (l0_7.length : Int)) = true := decide_eq_true c4
     clear c4
     by_cases c5 : 0 ≤ x9_1
     · rw [if_pos c5] at H
       have c5b0 : decide (0 ≤ x9_1) = true := decide_eq_true c5
       clear c5
       by_cases c6 : x9_1 < (l0_7.length : Int)
       · rw [if_pos c6] at H
         have c6b0 : decide (x9_1 < (l0_7.length : Int)) = true := decide_eq_true c6
         clear c6
         by_cases c7 : x3_1.length < 8796093022208
         · rw [if_pos c7] at H
           have LMc7 := Aside0.mk c7
           clear c7
           obtain ⟨y115, hy115⟩ : ∃ y_ : List ByteArray, y_ = (x3_1 ++ [(rd_T40 l0_7 x9_1).f0]) := ⟨_, rfl⟩
           replace H : (command_written.l0 k1 y115 l0_7 (l0_7.length : Int) (wrap64 (x9_1 + 1))) = some r := by first | (rw [hy115]; with_reducible exact H) | (have H2_ := (Option.bind_some _ _).symm.trans H; rw [hy115]; with_reducible exact H2_) | (have H2_ := (Option.bind_some _ _).symm.trans H; with_reducible exact H2_) | with_reducible exact H | (rw [hy115]; exact H) | exact H
           have Ny115 := Aside0.mk hy115
           clear hy115
           have H' := Aside0.mk H
           clear H
           have p113 : 0 ≤ (x9_1 : Int) := of_decide_eq_true (by first | (with_reducible assumption) | assumption)
           have q113 : x9_1 < (l0_7.length : Int) := of_decide_eq_true (by first | (with_reducible assumption) | assumption)
           obtain ⟨ad113, e113, hx113_0, hx113_1⟩ := at_T40 HR0_7.out x9_1 p113 q113
           cases e113
           replace hx113_0 := (HB.out.cell (World.block_lt_of_cell? w _ hx113_0)).trans hx113_0
           replace hx113_1 := (HB.out.cell (World.block_lt_of_cell? w _ hx113_1)).trans hx113_1
           replace p113 := eq_true p113
           replace q113 := eq_true q113
           go_wp2_with (first | ((with_reducible refine gate_dst (N := 5) rfl ?_); refine box_event ?hg (N := 5) ?hd (cs := #[.string (⟨#[]⟩ : ByteArray), .string (⟨#[]⟩ : ByteArray)]) (t := 40) ?hr ?_; (case hd => rfl); (case hg => rfl); (case hr => first | (go_simp; done) | (go_simp; rfl)); intro gb114 hg w8 hbox hb; have n0_ := Aside0.mk (Kd.R_below (by (with_reducible repeat (first | apply Kd.R_alloc | apply Kd.R_drewN | apply Kd.R_drew)); exact HO_3.out) hb); have n1_ := Aside0.mk (blk_below (g := gb112) (o := .cells #[.int .i64 a0_0, .int .i64 a0_1, .int .i64 a0_2, .int .i64 a0_3, .int .i64 a0_4, .int .i64 a0_5, .slice A0_6 l0_6.length c0_6, .slice (some ad113) l0_7.length c0_7, .bool a0_8] 29 (0, 0)) (by (with_reducible repeat (first | refine blk_drewN ?_ _ | refine blk_drew ?_ | refine blk_alloc ?_ _)); exact BK112.out) hb); have n2_ := Aside0.mk (below_step (by repeat (first | (with_reducible first | exact HB.out | apply below_alloc | apply pw_below_drewN | apply below_drew1 | refine below_set ?_ GE112.out) | exact HB.out)) hb); have n3_ := Aside0.mk (hbox); have n4_ := Aside0.mk ((by rw [hg]; exact (below_size (by repeat (first | (with_reducible first | exact HB.out | apply below_alloc | apply pw_below_drewN | apply below_drew1 | refine below_set ?_ GE112.out) | exact HB.out))) : w.heap.size ≤ gb114)); have n5_ := Aside0.mk ((by rw [hg]; exact (below_size (by repeat (first | (with_reducible first | exact HB.out | apply below_alloc | apply pw_below_drewN | apply below_drew1 | refine below_set ?_ GE112.out) | exact HB.out))) : w.heap.size ≤ gb114)); have n6_ := Aside0.mk ((by rw [hg]; exact Nat.ne_of_lt (blk_lt (g := gb112) (o := .cells #[.int .i64 a0_0, .int .i64 a0_1, .int .i64 a0_2, .int .i64 a0_3, .int .i64 a0_4, .int .i64 a0_5, .slice A0_6 l0_6.length c0_6, .slice (some ad113) l0_7.length c0_7, .bool a0_8] 29 (0, 0)) (by (with_reducible repeat (first | refine blk_drewN ?_ _ | refine blk_drew ?_ | refine blk_alloc ?_ _)); exact BK112.out)) : gb112 ≠ gb114)); have n7_ := Aside0.mk ((by rw [hg]; exact Nat.ne_of_gt (blk_lt (g := gb112) (o := .cells #[.int .i64 a0_0, .int .i64 a0_1, .int .i64 a0_2, .int .i64 a0_3, .int .i64 a0_4, .int .i64 a0_5, .slice A0_6 l0_6.length c0_6, .slice (some ad113) l0_7.length c0_7, .bool a0_8] 29 (0, 0)) (by (with_reducible repeat (first | refine blk_drewN ?_ _ | refine blk_drew ?_ | refine blk_alloc ?_ _)); exact BK112.out)) : gb114 ≠ gb112)); clear HO_3; clear BK112; clear HB; have HO_3 := n0_; have BK112 := n1_; have HB := n2_; have BK114 := n3_; have GW114 := n4_; have GE114 := n5_; have NB112_114 := n6_; have NB114_112 := n7_; clear n0_ n1_ n2_ n3_ n4_ n5_ n6_ n7_; clear hb hbox hg; have hnb9 := NB114_112.out; have hnc9 := NB112_114.out; have hcz10_0 : w8.cell? ⟨gb114, 0, none⟩ = some (.string (⟨#[]⟩ : ByteArray)) := (blk_cell BK114.out 0).trans rfl; have hcz10_1 : w8.cell? ⟨gb114, 1, none⟩ = some (.string (⟨#[]⟩ : ByteArray)) := (blk_cell BK114.out 1).trans rfl; have hfz10_0 := blk_frozen BK114.out 0; have hfz10_1 := blk_frozen BK114.out 1) | ((with_reducible refine gate_builtin (b := .append) (xs := #[.tmp 13, .tmp 16]) rfl ?_); at_builtin; refine Kd.R_append Kd.string (w0 := w) w.heap.size rfl (.tmp 13) (.tmp 16) 45 9 (.string ⟨#[]⟩) 16 rfl Try.underlying45 info9 rfl (by decide) (by omega) u3 x3_1 ((rd_T40 l0_7 x9_1).f0) [.string ((rd_T40 l0_7 x9_1).f0)] (fun _ => True) (fun _ => False) rfl (by first | (go_simp; done) | (go_simp; rfl)) ?aP (fun _ hk => hk.elim) ?aF ?aO ?aB ?aS ?aL ?_; (case aP => exact rfl); (case aB => exact (by repeat (first | (with_reducible first | exact HB.out | apply below_alloc | apply pw_below_drewN | apply below_drew1 | refine below_set ?_ GE112.out | refine below_set ?_ GE114.out) | exact HB.out))); (case aF => exact (fun _ _ => trivial)); (case aO => exact (by (with_reducible repeat (first | apply Kd.R_alloc | apply Kd.R_drewN | apply Kd.R_drew)); exact Kd.R_mono (Kd.R_far (p := ⟨gb114, 1, none⟩) (Kd.R_far (p := ⟨gb114, 0, none⟩) (Kd.R_types HO_3.out BK114.out (by decide)) (fun _ hk => hk.2) (.string ((rd_T40 l0_7 x9_1).f0))) (fun _ hk => hk.2) (.string ((rd_T40 l0_7 x9_1).f1))) (fun _ hk => trivial))); (case aS => exact (below_size (by repeat (first | (with_reducible first | exact HB.out | apply below_alloc | apply pw_below_drewN | apply below_drew1 | refine below_set ?_ GE112.out | refine below_set ?_ GE114.out) | exact HB.out)))); (case aL => have := LMc7.out; omega); intro v116 w11 ho hb hg hat; rw [← Ny115.out] at ho; have n0_ := Aside0.mk (blk_grown (g := gb112) (o := .cells #[.int .i64 a0_0, .int .i64 a0_1, .int .i64 a0_2, .int .i64 a0_3, .int .i64 a0_4, .int .i64 a0_5, .slice A0_6 l0_6.length c0_6, .slice (some ad113) l0_7.length c0_7, .bool a0_8] 29 (0, 0)) (by (with_reducible repeat (first | refine blk_drewN ?_ _ | refine blk_drew ?_ | refine blk_alloc ?_ _)); refine blk_far ?_ NB112_114.out _; (with_reducible repeat (first | refine blk_drewN ?_ _ | refine blk_drew ?_ | refine blk_alloc ?_ _)); refine blk_far ?_ NB112_114.out _; (with_reducible repeat (first | refine blk_drewN ?_ _ | refine blk_drew ?_ | refine blk_alloc ?_ _)); exact BK112.out) hg (Kd.R_ne HO_3.out BK112.out (by decide))); have n1_ := Aside0.mk (blk_grown (g := gb114) (o := .cells #[.string ((rd_T40 l0_7 x9_1).f0), .string ((rd_T40 l0_7 x9_1).f1)] 40 (0, 0)) (by (with_reducible repeat (first | refine blk_drewN ?_ _ | refine blk_drew ?_ | refine blk_alloc ?_ _)); refine blk_put (cs := #[.string ((rd_T40 l0_7 x9_1).f0), .string (⟨#[]⟩ : ByteArray)]) ?_ 1 _ rfl; (with_reducible repeat (first | refine blk_drewN ?_ _ | refine blk_drew ?_ | refine blk_alloc ?_ _)); refine blk_put (cs := #[.string (⟨#[]⟩ : ByteArray), .string (⟨#[]⟩ : ByteArray)]) ?_ 0 _ rfl; (with_reducible repeat (first | refine blk_drewN ?_ _ | refine blk_drew ?_ | refine blk_alloc ?_ _)); exact BK114.out) hg (Kd.R_ne HO_3.out BK114.out (by decide))); have n2_ := Aside0.mk (hb); have n3_ := Aside0.mk (ho); clear BK112; clear BK114; clear HB; clear HO_3; have BK112 := n0_; have BK114 := n1_; have HB := n2_; have HO117 := n3_; clear n0_ n1_ n2_ n3_; clear ho hb hg hat))
           go_roundg k1
           case measure => have := HK1.out; omega
           case rel => exact ⟨(y115), (wrap64 (x9_1 + 1)), (by first | rfl | (simp; done) | (simp [*]; done)), H', ⟨by have := HK1.out; omega⟩, ⟨by (with_reducible repeat (first | apply Kd.R_alloc | apply Kd.R_drewN | apply Kd.R_drew)); exact HO117.out⟩, ⟨by (with_reducible repeat (first | refine blk_drewN ?_ _ | refine blk_drew ?_ | refine blk_alloc ?_ _)); exact BK112.out⟩, ⟨by repeat (first | (with_reducible first | exact HB.out | apply below_alloc | apply pw_below_drewN | apply below_drew1 | refine below_set ?_ GE112.out | refine below_set ?_ GE114.out) | exact HB.out)⟩⟩
         · rw [if_neg c7] at H
           exact absurd H (by simp)
       · rw [if_neg c6] at H
         exact absurd H (by simp)
     · rw [if_neg c5] at H
       exact absurd H (by simp)
   · rw [if_neg c4] at H
     have c4b0 : decide (x9_1 < (l0_7.length : Int)) = false := decide_eq_false c4
     clear c4
     obtain rfl := Option.some.inj H
     go_wp2
     go_ret
     exact ⟨_, by first | rfl | (simp [errW_none, errW_some] <;> rfl) | (simp [*, errW_none, errW_some] <;> rfl), by (with_reducible repeat (first | apply Kd.R_alloc | apply Kd.R_drewN | apply Kd.R_drew)); exact HO_3.out, by repeat (first | (with_reducible first | exact HB.out | apply below_alloc | apply pw_below_drewN | apply below_drew1 | refine below_set ?_ GE112.out) | exact HB.out)⟩
end Go.Proofs.Ytnjeeedndnfglaa.X
end
section
namespace Go.Proofs.Ytnjeeedndnfglaa.Strs
open Go.RowKit Go.Proofs.YtnjeeedndnfglaaW.PrintWords Go.Proofs.YtnjeeedndnfglaaW.PrintLast Go.Proofs.YtnjeeedndnfglaaW.PrintMore Go.Proofs.Ytnjeeedndnfglaa.X
set_option linter.unusedSimpArgs false
set_option linter.unusedVariables false
theorem sorted_unique {α : Type} (R : α → α → Prop) (irr : ∀ x, ¬ R x x) (tr : ∀ x y z, R x y → R y z → R x z) :
    ∀ l m : List α, l.Pairwise R → m.Pairwise R → (∀ x, x ∈ l ↔ x ∈ m) → l = m
  | [], [], _, _, _ => rfl
  | [], y :: m, _, _, h => absurd ((h y).2 (by simp)) (by simp)
  | x :: l, [], _, _, h => absurd ((h x).1 (by simp)) (by simp)
  | x :: l, y :: m, hl, hm, h => by
    rw [List.pairwise_cons] at hl hm
    have hxy : x = y := by
      rcases List.mem_cons.1 ((h x).1 (by simp)) with e | e
      · exact e
      · rcases List.mem_cons.1 ((h y).2 (by simp)) with e2 | e2
        · exact e2.symm
        · exact absurd (tr _ _ _ (hm.1 x e) (hl.1 y e2)) (irr y)
    subst hxy
    congr 1
    refine sorted_unique R irr tr l m hl.2 hm.2 (fun z => ⟨fun hz => ?_, fun hz => ?_⟩)
    · rcases List.mem_cons.1 ((h z).1 (List.mem_cons_of_mem _ hz)) with e | e
      · subst e; exact absurd (hl.1 z hz) (irr z)
      · exact e
    · rcases List.mem_cons.1 ((h z).2 (List.mem_cons_of_mem _ hz)) with e | e
      · subst e; exact absurd (hm.1 z hz) (irr z)
      · exact e
theorem toList_eq (s : ByteArray) : s.toList = s.data.toList := by
  exact ByteArray.toList_eq s
def blt (x y : ByteArray) : Prop := x.data.toList < y.data.toList
theorem blt_irrefl (x : ByteArray) : ¬ blt x x := List.lt_irrefl _
theorem blt_trans (x y z : ByteArray) (h : blt x y) (h2 : blt y z) : blt x z := List.lt_trans h h2
theorem bytes_ext {x y : ByteArray} (h : x.data.toList = y.data.toList) : x = y := ByteArray.ext (Array.toList_inj.1 h)
/-- What two lists are joined: rising, and just what one of both has. -/
def Joined (a b r : List ByteArray) : Prop := r.Pairwise blt ∧ ∀ x, x ∈ r ↔ x ∈ a ∨ x ∈ b
theorem Joined.unique {a b r r' : List ByteArray} (h : Joined a b r) (h' : Joined a b r') : r = r' :=
  sorted_unique blt blt_irrefl blt_trans r r' h.1 h'.1 (fun x => (h.2 x).trans (h'.2 x).symm)
theorem Joined.symm {a b r : List ByteArray} (h : Joined a b r) : Joined b a r := ⟨h.1, fun x => (h.2 x).trans or_comm⟩
theorem Joined.self {r : List ByteArray} (h : r.Pairwise blt) : Joined r r r := ⟨h, fun x => by simp⟩
instance (x y : ByteArray) : Decidable (blt x y) := by unfold blt; exact inferInstance
theorem sz_len (s : ByteArray) : s.size = s.data.toList.length := by rw [Array.length_toList]; rfl
/-- Is a text in a list? -/
def inB (l : List ByteArray) (x : ByteArray) : Bool := l.any (fun y => decide (y.data.toList = x.data.toList))
theorem inB_iff (l : List ByteArray) (x : ByteArray) : inB l x = true ↔ x ∈ l := by
  unfold inB
  rw [List.any_eq_true]
  constructor
  · rintro ⟨y, hy, h⟩; exact bytes_ext (of_decide_eq_true h) ▸ hy
  · intro h; exact ⟨x, h, decide_eq_true rfl⟩
theorem drop_at (l : List UInt8) (i : Nat) (h : i < l.length) : l.drop i = l[i] :: l.drop (i + 1) := List.drop_eq_getElem_cons h
theorem bt_el (s : ByteArray) (i : Nat) (h : i < s.data.toList.length) : bt s (i : Int) = ((s.data.toList[i]).toNat : Int) := by
  have hs : i < s.size := by rw [sz_len]; exact h
  unfold bt
  rw [Int.toNat_natCast, dif_pos hs]
  rfl
/-- May texts be gone through? -/
def few (l : List ByteArray) : Prop := l.length ≤ 40 ∧ ∀ x ∈ l, x.size ≤ 100
end Go.Proofs.Ytnjeeedndnfglaa.Strs
end
section
namespace Go.Proofs.Ytnjeeedndnfglaa.Strs
open Go.RowKit Go.Proofs.YtnjeeedndnfglaaW.PrintWords Go.Proofs.YtnjeeedndnfglaaW.PrintLast Go.Proofs.YtnjeeedndnfglaaW.PrintMore Go.Proofs.Ytnjeeedndnfglaa.X
set_option linter.unusedSimpArgs false
set_option linter.unusedVariables false
theorem blt_tri (x y : ByteArray) (h : ¬ blt x y) (hne : x ≠ y) : blt y x := by
  unfold blt at *
  rcases Std.lt_trichotomy x.data.toList y.data.toList with h1 | h1 | h1
  · exact absurd h1 h
  · exact absurd (bytes_ext h1) hne
  · exact h1
theorem ins_sorted (out : List ByteArray) (x : ByteArray) (q : Nat) (h : out.Pairwise blt) (h1 : ∀ y ∈ out.take q, blt y x) (h2 : ∀ y ∈ out.drop q, blt x y) :
    (out.take q ++ [x] ++ out.drop q).Pairwise blt := by
  have hh : (out.take q ++ out.drop q).Pairwise blt := by rw [List.take_append_drop]; exact h
  rw [List.pairwise_append] at hh
  rw [List.append_assoc, List.pairwise_append]
  refine ⟨hh.1, ?_, ?_⟩
  · rw [List.singleton_append, List.pairwise_cons]; exact ⟨h2, hh.2.1⟩
  · intro a ha b hb
    rw [List.singleton_append, List.mem_cons] at hb
    rcases hb with rfl | hb
    · exact h1 a ha
    · exact hh.2.2 a ha b hb
theorem ins_mem (out : List ByteArray) (x : ByteArray) (q : Nat) (y : ByteArray) : y ∈ out.take q ++ [x] ++ out.drop q ↔ y ∈ out ∨ y = x := by
  conv => rhs; rw [← List.take_append_drop q out]
  simp only [List.mem_append, List.mem_singleton]
  constructor
  · rintro ((h | h) | h)
    · exact .inl (.inl h)
    · exact .inr h
    · exact .inl (.inr h)
  · rintro ((h | h) | h)
    · exact .inl (.inl h)
    · exact .inr h
    · exact .inl (.inr h)
theorem ins_len (out : List ByteArray) (x : ByteArray) (q : Nat) : (out.take q ++ [x] ++ out.drop q).length = out.length + 1 := by
  simp only [List.length_append, List.length_take, List.length_drop, List.length_singleton]; omega
def JoinedTo (l r : List ByteArray) : Prop := r.Pairwise blt ∧ ∀ x, x ∈ r ↔ x ∈ l
theorem head_below (out : List ByteArray) (x : ByteArray) (q : Nat) (h : out.Pairwise blt) (hq : q < out.length) (hx : x ∉ out) (hb : ¬ blt out[q] x) : ∀ y ∈ out.drop q, blt x y := by
  have h0 : blt x out[q] := blt_tri _ _ hb (fun e => hx (e ▸ List.getElem_mem hq))
  intro y hy
  rw [List.drop_eq_getElem_cons hq, List.mem_cons] at hy
  rcases hy with rfl | hy
  · exact h0
  · have hh : (out.drop q).Pairwise blt := h.sublist (List.drop_sublist _ _)
    rw [List.drop_eq_getElem_cons hq, List.pairwise_cons] at hh
    exact blt_trans _ _ _ h0 (hh.1 y hy)
theorem rd_el (l : List ByteArray) (i : Nat) (h : i < l.length) : rdOf ByteArray.empty l (i : Int) = l[i] := by
  unfold rdOf; rw [Int.toNat_natCast]; simp [List.getD_eq_getElem?_getD, h]
end Go.Proofs.Ytnjeeedndnfglaa.Strs
end
section
namespace Go.Proofs.Ytnjeeedndnfglaa
open Go.RowKit
/-- A world that has only grown since W. -/
structure Ext (W : World) where
  w : World
  below : Below W.heap.size W w
instance (W : World) : Nonempty (Ext W) := ⟨⟨W, Below.refl _ _⟩⟩
theorem Ext.cell {W : World} (X : Ext W) (b o : Nat) (h : b < W.heap.size) : X.w.cell? ⟨b, o, none⟩ = W.cell? ⟨b, o, none⟩ := X.below.cell (p := ⟨b, o, none⟩) h
theorem Ext.frozen {W : World} (X : Ext W) (b o : Nat) (h : b < W.heap.size) : X.w.frozen? ⟨b, o, none⟩ = W.frozen? ⟨b, o, none⟩ := X.below.frozen (p := ⟨b, o, none⟩) h
theorem Ext.size {W : World} (X : Ext W) : W.heap.size ≤ X.w.heap.size := X.below.size
theorem calls_ext {P : Program} {f : FuncId} {args : Array Value} {W : World} {X : Ext W} {v : Value} (h : Calls P f args X.w fun e w' => e = .returned v ∧ Below X.w.heap.size X.w w') :
    Calls P f args X.w fun e w'' => e = .returned v ∧ ∃ Y : Ext W, w'' = Y.w :=
  h.mono fun _ w' ⟨he, hb⟩ => ⟨he, ⟨w', X.below.trans (hb.mono X.below.size)⟩, rfl⟩
theorem calls_to_ext {P : Program} {f : FuncId} {args : Array Value} {W : World} {v : Value} (h : Calls P f args W fun e w' => e = .returned v ∧ Below W.heap.size W w') :
    Calls P f args W fun e w'' => e = .returned v ∧ ∃ Y : Ext W, w'' = Y.w :=
  h.mono fun _ w' ⟨he, hb⟩ => ⟨he, ⟨w', hb⟩, rfl⟩
theorem Ext.grown {B : Nat} {w W : World} (X : Ext W) (h : Below B w W) (hB : B ≤ W.heap.size) : Below B w X.w := h.trans (X.below.mono hB)
theorem Ext.cell_set {W : World} (X : Ext W) (b o : Nat) (v : Value) (h : b < W.heap.size) (hs : (W.cell? ⟨b, o, none⟩).isSome = true) : (X.w.setCell ⟨b, o, none⟩ v).cell? ⟨b, o, none⟩ = some v :=
  World.cell?_setCell_same' _ _ _ (by rw [X.cell b o h]; exact hs)
theorem below_drewN {B : Nat} {a w : World} (h : Below B a w) (n : Nat) : Below B a (w.drewN n) := ⟨h.os, h.tape, h.output, h.size, h.block⟩
theorem wp_region_ext {P : Program} {id : Nat} {Q : Exit → Act → World → Prop} {a : Act} {w : World} {l : List Oper} (hm : P.follows .mixedOrders = true) (hB : Region.lexB .any l.toArray = true)
    (h : wpQuiet P l.toArray (fun w' => ∃ X : Ext w, w' = X.w) (fun a' => ∀ w', (∃ X : Ext w, w' = X.w) → Q .normal a' w') l a) : (Code.region id l.toArray true).wp P Q a w :=
  wp_region_quiet (C := fun w' => ∃ X : Ext w, w' = X.w) hm hB ⟨⟨w.drew, (Below.refl _ _).drew⟩, rfl⟩ (by simpa using h)
theorem max2_int (k k' : IntKind) (x y : Int) : Builtin.max2 (.int k x) (.int k' y) = pure (.int k (max x y)) := by
  simp only [Builtin.max2, gt_iff_lt]; congr 2; omega
theorem min2_int (k k' : IntKind) (x y : Int) : Builtin.min2 (.int k x) (.int k' y) = pure (.int k (min x y)) := by
  simp only [Builtin.min2]; congr 2; omega
theorem max_two (ats : Array TypeId) (ty : TypeId) (a b : Value) : Builtin.max_ ats ty #[a, b] = (Builtin.max2 a b >>= fun s => pure s) := by simp only [Builtin.max_, List.foldlM_cons, List.foldlM_nil]
theorem min_two (ats : Array TypeId) (ty : TypeId) (a b : Value) : Builtin.min_ ats ty #[a, b] = (Builtin.min2 a b >>= fun s => pure s) := by simp only [Builtin.min_, List.foldlM_cons, List.foldlM_nil]
theorem run_index_arr {P : Program} (T e : TypeId) (n : Nat) (k : IntKind) (z : IntKind) (hT : P.underlying T = some (.array n e)) (he : P.underlying e = some (.int z)) (hs : (P.info? e).map (·.size) = some 1)
    (w : World) (cs : Array Value) (i : Int) (h0 : 0 ≤ i) (h1 : i < n) (hc : cs.size = n) :
    (Instr.index T (.agg cs) (.int k i)).run P w = .ok (cs.getD i.toNat undef) w := by
  obtain ⟨ti, hi, hs1⟩ := Option.map_eq_some_iff.1 hs
  have hi2 : i.toNat < cs.size := by omega
  have hagg : (isAgg e).run P w = .ok false w := by
    unfold isAgg
    rw [Sem.run_bind, run_underlying he w]
    simp
  simp [Instr.index, asIntOf, Sem.run_bind, run_underlying hT, h0, h1, sizeOf, typeInfo, hi, hs1, part, hagg, hi2]
theorem run_part_int {P : Program} (e : TypeId) (z : IntKind) (he : P.underlying e = some (.int z)) (w : World) (cs : Array Value) (i : Nat) (v : Value) (hi : cs[i]? = some v) :
    (part e cs i).run P w = .ok v w := by
  have hagg : (isAgg e).run P w = .ok false w := by
    unfold isAgg
    rw [Sem.run_bind, run_underlying he w]
    simp
  simp [part, Sem.run_bind, hagg, hi]
def eqInts (d : Nat) (e : TypeId) (xs ys : Array Value) : List Nat → Sem Bool
  | [] => pure true
  | i :: is => do
    let a ← part e xs i
    let b ← part e ys i
    let r ← Op.equalIn d e a b
    if (!r) = true then pure false else eqInts d e xs ys is
theorem run_equalIn_arr {P : Program} (w : World) (d n : Nat) (T e : TypeId) (xs ys : Array Value) (hT : P.underlying T = some (.array n e)) (hs : (P.info? e).map (·.size) = some 1) :
    (Op.equalIn (d + 1) T (.agg xs) (.agg ys)).run P w = (eqInts d e xs ys (List.range n)).run P w := by
  obtain ⟨ti, hi, hs1⟩ := Option.map_eq_some_iff.1 hs
  simp only [Op.equalIn, Sem.run_bind, run_underlying hT, Result.andThen_ok, sizeOf, typeInfo, run_program, hi, hs1, Sem.run_pure, Nat.mul_one, Std.Legacy.Range.forIn_eq_forIn_range']
  simp only [Std.Legacy.Range.size, Nat.sub_zero, Nat.add_sub_cancel, Nat.div_one, ← List.range_eq_range']
  generalize List.range n = l
  induction l generalizing w with
  | nil => simp [eqInts]
  | cons i is ih =>
    simp only [List.forIn_cons, eqInts, Sem.run_bind, Sem.run_ite]
    generalize (part e xs i).run P w = r1
    cases r1 with
    | ok a w1 =>
      simp only [Result.andThen_ok]
      generalize (part e ys i).run P w1 = r2
      cases r2 with
      | ok b w2 =>
        simp only [Result.andThen_ok]
        generalize (Op.equalIn d e a b).run P w2 = r3
        cases r3 with
        | ok r w3 =>
          cases r
          · simp only [Result.andThen_ok, Bool.not_false, if_true, Sem.run_pure]
          · simp only [Result.andThen_ok, Bool.not_true, Bool.false_eq_true, if_false, Sem.run_pure]
            exact ih w3
        | halt x w3 => simp [Result.andThen]
      | halt x w2 => simp [Result.andThen]
    | halt x w1 => simp [Result.andThen]
theorem run_eqInts_cons {P : Program} (w : World) (d : Nat) (e : TypeId) (z : IntKind) (he : P.underlying e = some (.int z)) (xs ys : Array Value) (i : Nat) (is : List Nat) (k : IntKind) (x y : Int) (hx : xs[i]? = some (.int k x)) (hy : ys[i]? = some (.int k y)) (b : Bool)
    (ht : (eqInts (d + 1) e xs ys is).run P w = .ok b w) : (eqInts (d + 1) e xs ys (i :: is)).run P w = .ok (x == y && b) w := by
  simp only [eqInts, Sem.run_bind, run_part_int e z he w xs i _ hx, run_part_int e z he w ys i _ hy, Result.andThen_ok, run_equalIn_int (h := he)]
  cases h : (x == y) <;> simp [ht]
theorem run_equalIn_arr7 {P : Program} (w : World) (d : Nat) (T e : TypeId) (z k : IntKind) (hT : P.underlying T = some (.array 7 e)) (he : P.underlying e = some (.int z)) (hs : (P.info? e).map (·.size) = some 1) (x0 x1 x2 x3 x4 x5 x6 y0 y1 y2 y3 y4 y5 y6 : Int) :
    (Op.equalIn (d + 2) T (.agg #[.int k x0, .int k x1, .int k x2, .int k x3, .int k x4, .int k x5, .int k x6]) (.agg #[.int k y0, .int k y1, .int k y2, .int k y3, .int k y4, .int k y5, .int k y6])).run P w =
      .ok (x0 == y0 && (x1 == y1 && (x2 == y2 && (x3 == y3 && (x4 == y4 && (x5 == y5 && (x6 == y6 && true))))))) w := by
  rw [run_equalIn_arr w (d + 1) 7 T e _ _ hT hs]
  show (eqInts (d + 1) e _ _ [0, 1, 2, 3, 4, 5, 6]).run P w = _
  refine run_eqInts_cons w d e z he _ _ _ _ k _ _ rfl rfl _ ?_
  refine run_eqInts_cons w d e z he _ _ _ _ k _ _ rfl rfl _ ?_
  refine run_eqInts_cons w d e z he _ _ _ _ k _ _ rfl rfl _ ?_
  refine run_eqInts_cons w d e z he _ _ _ _ k _ _ rfl rfl _ ?_
  refine run_eqInts_cons w d e z he _ _ _ _ k _ _ rfl rfl _ ?_
  refine run_eqInts_cons w d e z he _ _ _ _ k _ _ rfl rfl _ ?_
  refine run_eqInts_cons w d e z he _ _ _ _ k _ _ rfl rfl _ ?_
  simp [eqInts]
theorem szlt1 (n : Nat) : (n < n + 1) = True := eq_true (by omega)
theorem szlt2 (n : Nat) : (n < n + 1 + 1) = True := eq_true (by omega)
theorem szlt3 (n : Nat) : (n < n + 1 + 1 + 1) = True := eq_true (by omega)
theorem szlt4 (n : Nat) : (n < n + 1 + 1 + 1 + 1) = True := eq_true (by omega)
theorem szlt5 (n : Nat) : (n < n + 1 + 1 + 1 + 1 + 1) = True := eq_true (by omega)
theorem szlt6 (n : Nat) : (n < n + 1 + 1 + 1 + 1 + 1 + 1) = True := eq_true (by omega)
theorem szlt7 (n : Nat) : (n < n + 1 + 1 + 1 + 1 + 1 + 1 + 1) = True := eq_true (by omega)
theorem szlt8 (n : Nat) : (n < n + 1 + 1 + 1 + 1 + 1 + 1 + 1 + 1) = True := eq_true (by omega)
theorem szlt9 (n : Nat) : (n < n + 1 + 1 + 1 + 1 + 1 + 1 + 1 + 1 + 1) = True := eq_true (by omega)
theorem szlt10 (n : Nat) : (n < n + 1 + 1 + 1 + 1 + 1 + 1 + 1 + 1 + 1 + 1) = True := eq_true (by omega)
theorem szlt11 (n : Nat) : (n < n + 1 + 1 + 1 + 1 + 1 + 1 + 1 + 1 + 1 + 1 + 1) = True := eq_true (by omega)
theorem szlt12 (n : Nat) : (n < n + 1 + 1 + 1 + 1 + 1 + 1 + 1 + 1 + 1 + 1 + 1 + 1) = True := eq_true (by omega)
theorem tt {p : Prop} [Decidable p] (h : p) : true = decide p := (decide_eq_true h).symm
theorem ff {p : Prop} [Decidable p] (h : ¬ p) : false = decide p := (decide_eq_false h).symm
theorem bcell {W w1 : World} (hb : Below W.heap.size W w1) : (∀ b o, b < W.heap.size → w1.cell? ⟨b, o, none⟩ = W.cell? ⟨b, o, none⟩) ∧ (∀ b o, b < W.heap.size → w1.frozen? ⟨b, o, none⟩ = W.frozen? ⟨b, o, none⟩) :=
  ⟨fun b o h => hb.cell (p := ⟨b, o, none⟩) h, fun b o h => hb.frozen (p := ⟨b, o, none⟩) h⟩
theorem ret_bool {a b : Bool} (h : a = b) : Ending.returned (.bool a) = .returned (.bool b) := by rw [h]
theorem ret_int {k : IntKind} {a b : Int} (h : a = b) : Ending.returned (.int k a) = .returned (.int k b) := by rw [h]
end Go.Proofs.Ytnjeeedndnfglaa
end
section
namespace Go.Proofs.Ytnjeeedndnfglaa
open Go.RowKit
set_option linter.unusedSimpArgs false
set_option linter.unusedVariables false
theorem own_none (W : World) (base : Nat) (e : TypeId) (size : Nat) : W.ownsRow base e size (.slice none 0 0) 0 [] := ⟨by simp, .inl ⟨rfl, rfl⟩⟩
theorem own_block_le {w : World} {base n : Nat} {e : TypeId} {size : Nat} {v : Value} {xs : List Value} (h : w.ownsRow base e size v n xs) (k : Nat) (hk : v.ownBlock = some k) : base ≤ k := by
  rcases h.2 with ⟨rfl, _⟩ | ⟨g, cap, cur, rfl, hb, _⟩
  · simp [Value.ownBlock] at hk
  · have : g = k := by simpa [Value.ownBlock] using hk
    omega
theorem own_step {w w1 : World} {base n : Nat} {e : TypeId} {size : Nat} {v : Value} {xs : List Value} (h : w.ownsRow base e size v n xs) (hb : Below w.heap.size w w1) : w1.ownsRow base e size v n xs := by
  obtain ⟨h1, h2⟩ := h
  refine ⟨h1, ?_⟩
  rcases h2 with h2 | ⟨g, cap, cur, rfl, hg, hh, r⟩
  · exact .inl h2
  · exact .inr ⟨g, cap, cur, rfl, hg, (hb.block g (Array.getElem?_eq_some_iff.1 hh).1).trans hh, r⟩
section
variable {P : Program} {ops : Array Oper} {rest : List Oper} {o : Oper} {a : Act} {Q : Exit → Act → World → Prop}
theorem append_one {w0 W : World} (base : Nat) (hgd : o.guard = none) (s x : Operand) (t e : TypeId) (z : Value) (size bytes : Nat)
    (ho : o.op = .call { callee := .builtin .append, args := #[s, x], argTypes := #[t, t] })
    (ht : P.underlying t = some (.slice e)) (hinfo : (P.info? e).map (fun i => (i.zero, i.size, i.bytes)) = some (some z, size, bytes)) (hz : z.cells.size = size) (hsz : 0 < size) (hb0 : 0 < bytes)
    (v : Value) (n : Nat) (xs ys : List Value) (hs : a.eval s = v) (hx : a.eval x = .slice (some ⟨W.heap.size, 0, none⟩) 1 1) (hy : ys.length = size) (h1 : ∀ u ∈ ys, u.oneCell' = true)
    (HO : W.ownsRow base e size v n xs) (HB : Below base w0 W) (hbase : base ≤ W.heap.size) (hl : (n + 1) * bytes ≤ 140737488355328)
    (h : ∀ v1 w1, w1.ownsRow base e size v1 (n + 1) (xs ++ ys) → Below base w0 w1 → W.heap.size ≤ w1.heap.size → wpList P ops Q rest (a.put o.dst v1) w1) :
    wpList P ops Q (o :: rest) a (W.alloc (.cells ys.toArray e)) := by
  obtain ⟨i0, hi, hzz⟩ := Option.map_eq_some_iff.1 hinfo
  simp only [Prod.mk.injEq] at hzz
  obtain ⟨hz0, hz1, hz2⟩ := hzz
  have hlen : n + 1 ≤ 140737488355328 := Nat.le_trans (Nat.le_mul_of_pos_right _ hb0) hl
  refine wpList_append_own (W.alloc (.cells ys.toArray e)) hgd s x t ho base e i0 z size bytes ht hi hz0 hz1 hz2 hz hsz v n xs hs (HO.alloc _) ⟨W.heap.size, 0, none⟩ 1 1 ys hx (by omega)
    (fun j u hu => ?_) h1 (by simp only [maxLen]; omega) hl (by simp; omega) ?_
  · have ha : (⟨W.heap.size, 0, none⟩ : Addr).add j = ⟨W.heap.size, j, none⟩ := by unfold Addr.add; split <;> simp_all
    rw [ha, World.cell?_alloc_at _ _ _ _ rfl]
    simpa using hu
  · intro v1 w1 hown hg _
    refine h v1 w1 hown ((HB.alloc hbase _).grown hg (by simp; omega) (own_block_le HO)) ?_
    have := hg.size
    simp at this
    omega
end
end Go.Proofs.Ytnjeeedndnfglaa
end
