/- What the claim PAR leans on: texts joined by bundle.py, a program of ours; the words cut down to what is used. -/
import Derived.Test.YtnjeeedndnfglaaBPAR1
import Derived.Test.YtnjeeedndnfglaaProg
import Derived.Below
import Derived.Deep.Draws
import Derived.Deep.AppendLies
import Derived.Maps.AppendAt
import Derived.OwnWalk
import Derived.Laws.BytesArg
import Derived.Laws.MakeOwn
import Derived.Laws.OwnMore
import Derived.Deep.OwnRows
import Derived.Tactics
import Derived.Lib.ConvBytes
import Derived.Laws.Slices
import Derived.WalkKit
import Derived.KernelRfl
import Derived.RowKit3
import Derived.Deep.LoopGhost
import Derived.Deep.QuietTactic
import Derived.BigQuiet
import Derived.WideLaws
import Derived.Deep.DeepCutAuto
import Derived.Deep.CutBlock
import Derived.Deep.RegionHeld3
import Derived.Laws.Rows
import Derived.Lib.AppendStr
import Derived.ArgAppend
import Derived.Laws.IdiomCopy
import Derived.OrdersHeld
import Derived.Laws.BitsLemmas
import Derived.RowKit
import Derived.WalkLawsBesides
import Derived.WalkSpells
import Derived.Handy
import Derived.Lib.Hide
import Derived.Sort.Walk0
section
namespace Go.Proofs.Ytnjeeedndnfglaa.X
open Go.RowKit Go.Proofs.YtnjeeedndnfglaaW.PrintWords Go.Proofs.YtnjeeedndnfglaaW.PrintLast Go.Proofs.YtnjeeedndnfglaaW.PrintMore
attribute [local go_sem] max2_int min2_int max_two min_two max_three min_three max_four min_four   -- for this text's walks alone
set_option linter.unusedVariables false
set_option linter.unusedSimpArgs false



def errW : Option Int → Value
  | none => .nilIface
  | some c => .iface 0 (.int .i64 c)
theorem errW_none : errW none = .nilIface := rfl
theorem errW_some (c : Int) : errW (some c) = .iface 0 (.int .i64 c) := rfl

theorem info3 : (Try.prog.info? 3).map (fun i => (i.zero, i.size, i.bytes)) = some (some (.int .i64 0), 1, 8) := by kernel_rfl
theorem info9 : (Try.prog.info? 9).map (fun i => (i.zero, i.size, i.bytes)) = some (some (.string ⟨#[]⟩), 1, 16) := by kernel_rfl
theorem info38 : (Try.prog.info? 38).map (fun i => (i.zero, i.size, i.bytes)) = some (some (.agg #[(.string ⟨#[]⟩), (.int .i64 0), (.int .i64 0)]), 3, 32) := by kernel_rfl
theorem info40 : (Try.prog.info? 40).map (fun i => (i.zero, i.size, i.bytes)) = some (some (.agg #[(.string ⟨#[]⟩), (.string ⟨#[]⟩)]), 2, 32) := by kernel_rfl
structure S23 where
  f0 : Int
  f1 : Int
def z23 : S23 := ⟨(0 : Int), (0 : Int)⟩
def k23 : Kd S23 := Kd.iso (Kd.pair (Kd.int .i64) (Kd.int .i64)) (fun x : S23 => (x.f0, x.f1))
theorem k23_open {w : World} {x : S23} {cs : List Value} (h : k23.K w x cs) : cs = [.int .i64 x.f0, .int .i64 x.f1] := by
  obtain ⟨_, _, rfl, rfl, rfl⟩ := h
  exact rfl
theorem k23_mk (w : World) (x : S23)  : k23.K w x [.int .i64 x.f0, .int .i64 x.f1] := ⟨[.int .i64 x.f0], [.int .i64 x.f1], rfl, rfl, rfl⟩
structure S25 where
  f0 : Int
  f1 : Int
def z25 : S25 := ⟨(0 : Int), (0 : Int)⟩
def k25 : Kd S25 := Kd.iso (Kd.pair (Kd.int .i64) (Kd.int .i64)) (fun x : S25 => (x.f0, x.f1))
theorem k25_heap : Kd.Heap k25 := Kd.heap_iso _ (Kd.heap_pair (Kd.heap_int .i64) (Kd.heap_int .i64))
theorem k25_open {w : World} {x : S25} {cs : List Value} (h : k25.K w x cs) : cs = [.int .i64 x.f0, .int .i64 x.f1] := by
  obtain ⟨_, _, rfl, rfl, rfl⟩ := h
  exact rfl
theorem k25_mk (w : World) (x : S25)  : k25.K w x [.int .i64 x.f0, .int .i64 x.f1] := ⟨[.int .i64 x.f0], [.int .i64 x.f1], rfl, rfl, rfl⟩
theorem k25_mkM (w : World) (base : Nat) (ok : Nat → Prop) (x : S25)  : k25.M w base ok x [.int .i64 x.f0, .int .i64 x.f1] := ⟨[.int .i64 x.f0], [.int .i64 x.f1], rfl, rfl, rfl⟩
structure S38 where
  f0 : ByteArray
  f1 : S25
def z38 : S38 := ⟨(⟨#[]⟩ : ByteArray), z25⟩
def k38 : Kd S38 := Kd.iso (Kd.pair Kd.string k25) (fun x : S38 => (x.f0, x.f1))
theorem k38_heap : Kd.Heap k38 := Kd.heap_iso _ (Kd.heap_pair Kd.heap_string k25_heap)
theorem k38_open {w : World} {x : S38} {cs : List Value} (h : k38.K w x cs) : cs = [.string x.f0, .int .i64 x.f1.f0, .int .i64 x.f1.f1] := by
  obtain ⟨_, _, rfl, rfl, s1⟩ := h
  obtain rfl := k25_open s1
  exact rfl
theorem k38_mkM (w : World) (base : Nat) (ok : Nat → Prop) (x : S38)  : k38.M w base ok x [.string x.f0, .int .i64 x.f1.f0, .int .i64 x.f1.f1] := ⟨[.string x.f0], [.int .i64 x.f1.f0, .int .i64 x.f1.f1], rfl, rfl, (k25_mkM w base ok x.f1 )⟩
def rd_T38 (xs : List S38) (i : Int) : S38 := xs.getD i.toNat z38
theorem at_T38 {w : World} {A : Option Addr} {n : Nat} {xs : List S38} (h : Kd.C k38 w A n xs) (i : Int) (h0 : 0 ≤ i) (h1 : i < n) : ∃ ad , A = some ad ∧ w.cell? (ad.add (i.toNat * 3)) = some (.string (rd_T38 xs i).f0) ∧ w.cell? ⟨(ad.add (i.toNat * 3)).block, (ad.add (i.toNat * 3)).off + 1, none⟩ = some (.int .i64 (rd_T38 xs i).f1.f0) ∧ w.cell? ⟨(ad.add (i.toNat * 3)).block, (ad.add (i.toNat * 3)).off + 2, none⟩ = some (.int .i64 (rd_T38 xs i).f1.f1) := by
  obtain ⟨ad, c, e, _, hK, hc0⟩ := Kd.C_get h z38 i h0 h1
  have hc : ∀ j u, c[j]? = some u → w.cell? (ad.add (i.toNat * 3 + j)) = some u := hc0
  obtain rfl := k38_open hK
  exact ⟨ad, e, hc 0 _ rfl, by rw [← add_field _ _ 1 (by omega)]; exact hc 1 _ rfl, by rw [← add_field _ _ 2 (by omega)]; exact hc 2 _ rfl⟩

structure S40 where
  f0 : ByteArray
  f1 : ByteArray
def z40 : S40 := ⟨(⟨#[]⟩ : ByteArray), (⟨#[]⟩ : ByteArray)⟩
def k40 : Kd S40 := Kd.iso (Kd.pair Kd.string Kd.string) (fun x : S40 => (x.f0, x.f1))
theorem k40_heap : Kd.Heap k40 := Kd.heap_iso _ (Kd.heap_pair Kd.heap_string Kd.heap_string)
theorem k40_open {w : World} {x : S40} {cs : List Value} (h : k40.K w x cs) : cs = [.string x.f0, .string x.f1] := by
  obtain ⟨_, _, rfl, rfl, rfl⟩ := h
  exact rfl
theorem k40_mkM (w : World) (base : Nat) (ok : Nat → Prop) (x : S40)  : k40.M w base ok x [.string x.f0, .string x.f1] := ⟨[.string x.f0], [.string x.f1], rfl, rfl, rfl⟩
def rd_T40 (xs : List S40) (i : Int) : S40 := xs.getD i.toNat z40
theorem at_T40 {w : World} {A : Option Addr} {n : Nat} {xs : List S40} (h : Kd.C k40 w A n xs) (i : Int) (h0 : 0 ≤ i) (h1 : i < n) : ∃ ad , A = some ad ∧ w.cell? (ad.add (i.toNat * 2)) = some (.string (rd_T40 xs i).f0) ∧ w.cell? ⟨(ad.add (i.toNat * 2)).block, (ad.add (i.toNat * 2)).off + 1, none⟩ = some (.string (rd_T40 xs i).f1) := by
  obtain ⟨ad, c, e, _, hK, hc0⟩ := Kd.C_get h z40 i h0 h1
  have hc : ∀ j u, c[j]? = some u → w.cell? (ad.add (i.toNat * 2 + j)) = some u := hc0
  obtain rfl := k40_open hK
  exact ⟨ad, e, hc 0 _ rfl, by rw [← add_field _ _ 1 (by omega)]; exact hc 1 _ rfl⟩

structure S29 where
  f0 : Int
  f1 : S23
  f2 : S25
  f3 : Int
  f4 : (List S38)
  f5 : (List S40)
  f6 : Bool
def z29 : S29 := ⟨(0 : Int), z23, z25, (0 : Int), ([] : List S38), ([] : List S40), false⟩
def k29 : Kd S29 := Kd.iso (Kd.pair (Kd.int .i64) (Kd.pair k23 (Kd.pair k25 (Kd.pair (Kd.int .i64) (Kd.pair (Kd.slice 38 k38) (Kd.pair (Kd.slice 40 k40) Kd.bool)))))) (fun x : S29 => (x.f0, x.f1, x.f2, x.f3, x.f4, x.f5, x.f6))
theorem k29_open {w : World} {x : S29} {cs : List Value} (h : k29.K w x cs) : ∃ A6 c6 A7 c7, cs = [.int .i64 x.f0, .int .i64 x.f1.f0, .int .i64 x.f1.f1, .int .i64 x.f2.f0, .int .i64 x.f2.f1, .int .i64 x.f3, .slice A6 x.f4.length c6, .slice A7 x.f5.length c7, .bool x.f6] ∧ x.f4.length ≤ c6 ∧ k38.C w A6 x.f4.length x.f4 ∧ x.f5.length ≤ c7 ∧ k40.C w A7 x.f5.length x.f5 := by
  obtain ⟨_, _, rfl, rfl, ⟨_, _, rfl, s1, ⟨_, _, rfl, s3, ⟨_, _, rfl, rfl, ⟨_, _, rfl, ⟨A6, c6, rfl, l6, g6⟩, ⟨_, _, rfl, ⟨A7, c7, rfl, l7, g7⟩, rfl⟩⟩⟩⟩⟩⟩ := h
  obtain rfl := k23_open s1
  obtain rfl := k25_open s3
  exact ⟨A6, c6, A7, c7, rfl, l6, g6, l7, g7⟩
theorem k29_mk (w : World) (x : S29) {A6 : Option Addr} {c6 : Nat} (l6 : x.f4.length ≤ c6) (g6 : k38.C w A6 x.f4.length x.f4) {A7 : Option Addr} {c7 : Nat} (l7 : x.f5.length ≤ c7) (g7 : k40.C w A7 x.f5.length x.f5) : k29.K w x [.int .i64 x.f0, .int .i64 x.f1.f0, .int .i64 x.f1.f1, .int .i64 x.f2.f0, .int .i64 x.f2.f1, .int .i64 x.f3, .slice A6 x.f4.length c6, .slice A7 x.f5.length c7, .bool x.f6] := ⟨[.int .i64 x.f0], [.int .i64 x.f1.f0, .int .i64 x.f1.f1, .int .i64 x.f2.f0, .int .i64 x.f2.f1, .int .i64 x.f3, .slice A6 x.f4.length c6, .slice A7 x.f5.length c7, .bool x.f6], rfl, rfl, ⟨[.int .i64 x.f1.f0, .int .i64 x.f1.f1], [.int .i64 x.f2.f0, .int .i64 x.f2.f1, .int .i64 x.f3, .slice A6 x.f4.length c6, .slice A7 x.f5.length c7, .bool x.f6], rfl, (k23_mk w x.f1 ), ⟨[.int .i64 x.f2.f0, .int .i64 x.f2.f1], [.int .i64 x.f3, .slice A6 x.f4.length c6, .slice A7 x.f5.length c7, .bool x.f6], rfl, (k25_mk w x.f2 ), ⟨[.int .i64 x.f3], [.slice A6 x.f4.length c6, .slice A7 x.f5.length c7, .bool x.f6], rfl, rfl, ⟨[.slice A6 x.f4.length c6], [.slice A7 x.f5.length c7, .bool x.f6], rfl, ⟨A6, c6, rfl, l6, g6⟩, ⟨[.slice A7 x.f5.length c7], [.bool x.f6], rfl, ⟨A7, c7, rfl, l7, g7⟩, rfl⟩⟩⟩⟩⟩⟩
theorem k29_mkF (W : World) (ok : Nat → Prop) (x : S29) {A6 : Option Addr} {c6 : Nat} (l6 : x.f4.length ≤ c6) (g6 : Kd.F k38 W ok A6 x.f4.length x.f4) {A7 : Option Addr} {c7 : Nat} (l7 : x.f5.length ≤ c7) (g7 : Kd.F k40 W ok A7 x.f5.length x.f5) : Kd.FK k29 W ok x [.int .i64 x.f0, .int .i64 x.f1.f0, .int .i64 x.f1.f1, .int .i64 x.f2.f0, .int .i64 x.f2.f1, .int .i64 x.f3, .slice A6 x.f4.length c6, .slice A7 x.f5.length c7, .bool x.f6] := fun W2 hW => k29_mk W2 x l6 (g6 W2 hW) l7 (g7 W2 hW)
def rd_T29 (xs : List S29) (i : Int) : S29 := xs.getD i.toNat z29
theorem at_T29 {w : World} {A : Option Addr} {n : Nat} {xs : List S29} (h : Kd.C k29 w A n xs) (i : Int) (h0 : 0 ≤ i) (h1 : i < n) : ∃ ad A6 c6 A7 c7, A = some ad ∧ w.cell? (ad.add (i.toNat * 9)) = some (.int .i64 (rd_T29 xs i).f0) ∧ w.cell? ⟨(ad.add (i.toNat * 9)).block, (ad.add (i.toNat * 9)).off + 1, none⟩ = some (.int .i64 (rd_T29 xs i).f1.f0) ∧ w.cell? ⟨(ad.add (i.toNat * 9)).block, (ad.add (i.toNat * 9)).off + 2, none⟩ = some (.int .i64 (rd_T29 xs i).f1.f1) ∧ w.cell? ⟨(ad.add (i.toNat * 9)).block, (ad.add (i.toNat * 9)).off + 3, none⟩ = some (.int .i64 (rd_T29 xs i).f2.f0) ∧ w.cell? ⟨(ad.add (i.toNat * 9)).block, (ad.add (i.toNat * 9)).off + 4, none⟩ = some (.int .i64 (rd_T29 xs i).f2.f1) ∧ w.cell? ⟨(ad.add (i.toNat * 9)).block, (ad.add (i.toNat * 9)).off + 5, none⟩ = some (.int .i64 (rd_T29 xs i).f3) ∧ w.cell? ⟨(ad.add (i.toNat * 9)).block, (ad.add (i.toNat * 9)).off + 6, none⟩ = some (.slice A6 (rd_T29 xs i).f4.length c6) ∧ w.cell? ⟨(ad.add (i.toNat * 9)).block, (ad.add (i.toNat * 9)).off + 7, none⟩ = some (.slice A7 (rd_T29 xs i).f5.length c7) ∧ w.cell? ⟨(ad.add (i.toNat * 9)).block, (ad.add (i.toNat * 9)).off + 8, none⟩ = some (.bool (rd_T29 xs i).f6) ∧ (rd_T29 xs i).f4.length ≤ c6 ∧ k38.C w A6 (rd_T29 xs i).f4.length (rd_T29 xs i).f4 ∧ (rd_T29 xs i).f5.length ≤ c7 ∧ k40.C w A7 (rd_T29 xs i).f5.length (rd_T29 xs i).f5 := by
  obtain ⟨ad, c, e, _, hK, hc0⟩ := Kd.C_get h z29 i h0 h1
  have hc : ∀ j u, c[j]? = some u → w.cell? (ad.add (i.toNat * 9 + j)) = some u := hc0
  obtain ⟨A6, c6, A7, c7, rfl, l6, g6, l7, g7⟩ := k29_open hK
  exact ⟨ad, A6, c6, A7, c7, e, hc 0 _ rfl, by rw [← add_field _ _ 1 (by omega)]; exact hc 1 _ rfl, by rw [← add_field _ _ 2 (by omega)]; exact hc 2 _ rfl, by rw [← add_field _ _ 3 (by omega)]; exact hc 3 _ rfl, by rw [← add_field _ _ 4 (by omega)]; exact hc 4 _ rfl, by rw [← add_field _ _ 5 (by omega)]; exact hc 5 _ rfl, by rw [← add_field _ _ 6 (by omega)]; exact hc 6 _ rfl, by rw [← add_field _ _ 7 (by omega)]; exact hc 7 _ rfl, by rw [← add_field _ _ 8 (by omega)]; exact hc 8 _ rfl, l6, g6, l7, g7⟩

end Go.Proofs.Ytnjeeedndnfglaa.X
end
section
namespace Go.Proofs.Ytnjeeedndnfglaa
open Go.RowKit
structure Ext (W : World) where
  w : World
  below : Below W.heap.size W w
instance (W : World) : Nonempty (Ext W) := ⟨⟨W, Below.refl _ _⟩⟩
theorem Ext.cell {W : World} (X : Ext W) (b o : Nat) (h : b < W.heap.size) : X.w.cell? ⟨b, o, none⟩ = W.cell? ⟨b, o, none⟩ := X.below.cell (p := ⟨b, o, none⟩) h
theorem Ext.frozen {W : World} (X : Ext W) (b o : Nat) (h : b < W.heap.size) : X.w.frozen? ⟨b, o, none⟩ = W.frozen? ⟨b, o, none⟩ := X.below.frozen (p := ⟨b, o, none⟩) h
theorem Ext.size {W : World} (X : Ext W) : W.heap.size ≤ X.w.heap.size := X.below.size
theorem Ext.grown {B : Nat} {w W : World} (X : Ext W) (h : Below B w W) (hB : B ≤ W.heap.size) : Below B w X.w := h.trans (X.below.mono hB)
theorem max2_int (k k' : IntKind) (x y : Int) : Builtin.max2 (.int k x) (.int k' y) = pure (.int k (max x y)) := by
  simp only [Builtin.max2, gt_iff_lt]; congr 2; omega
theorem min2_int (k k' : IntKind) (x y : Int) : Builtin.min2 (.int k x) (.int k' y) = pure (.int k (min x y)) := by
  simp only [Builtin.min2]; congr 2; omega
theorem max_two (ats : Array TypeId) (ty : TypeId) (a b : Value) : Builtin.max_ ats ty #[a, b] = (Builtin.max2 a b >>= fun s => pure s) := by simp only [Builtin.max_, List.foldlM_cons, List.foldlM_nil]
theorem min_two (ats : Array TypeId) (ty : TypeId) (a b : Value) : Builtin.min_ ats ty #[a, b] = (Builtin.min2 a b >>= fun s => pure s) := by simp only [Builtin.min_, List.foldlM_cons, List.foldlM_nil]
theorem ret_int {k : IntKind} {a b : Int} (h : a = b) : Ending.returned (.int k a) = .returned (.int k b) := by rw [h]
end Go.Proofs.Ytnjeeedndnfglaa
end
section
namespace Go.Proofs.Ytnjeeedndnfglaa
open Go.RowKit Go.Proofs.YtnjeeedndnfglaaW.PrintWords Go.Proofs.YtnjeeedndnfglaaW.PrintLast Go.Proofs.YtnjeeedndnfglaaW.PrintMore
set_option linter.unusedVariables false
theorem mx_eq (a b : Int) : mx a b = max a b := by unfold mx; split <;> omega
theorem mn_eq (a b : Int) : mn a b = min a b := by unfold mn; split <;> omega
section
variable {P : Program} {ops : Array Oper} {rest : List Oper} {o o1 o2 : Oper} {a : Act} {Q : Exit → Act → World → Prop}
theorem alloc_store_event {W : World} (hg1 : o1.guard = none) {N : Tmp} (hd1 : o1.dst = some N) (hg2 : o2.guard = none) (hd2 : o2.dst = none) {t : TypeId} {x : Operand} (ho2 : o2.op = .store t (.tmp N) x) {cs0 cs : Array Value}
    (hrun : (execOp a.eval o1).run P W = .ok (.value (.pointer (some ⟨W.heap.size, 0, none⟩))) (W.alloc (.cells cs0 t (0, 0))))
    (hp : (a.put (some N) (.pointer (some ⟨W.heap.size, 0, none⟩))).eval (.tmp N) = .pointer (some ⟨W.heap.size, 0, none⟩))
    (hx : (a.put (some N) (.pointer (some ⟨W.heap.size, 0, none⟩))).eval x = .agg cs) (hsz : cs.size = cs0.size) (h1 : cs.toList.all (fun q => q.oneCell') = true) (ht : (P.info? t).map (·.size) = some cs.size)
    (h : ∀ g, g = W.heap.size → ∀ w1, w1.heap[g]? = some (.cells cs t (0, 0)) → Below W.heap.size W w1 → wpList P ops Q rest (a.put o1.dst (.pointer (some ⟨g, 0, none⟩))) w1) : wpList P ops Q (o1 :: o2 :: rest) a W := by
  have hb0 := blk_new W (.cells cs0 t (0, 0))
  obtain ⟨cur', h3, h4, h5⟩ := setCells_row cs.toList 0 (W.alloc (.cells cs0 t (0, 0))) cs0 hb0 (by simp [hsz])
  have hc : cur' = cs := by
    apply Array.toList_inj.1
    rw [h5]; simp [hsz]
  subst hc
  obtain ⟨s1, s2, s3, s4⟩ := setCells_same W.heap.size cur'.toList 0 (W.alloc (.cells cs0 t (0, 0)))
  have hB0 := below_alloc (Below.refl W.heap.size W) (.cells cs0 t (0, 0))
  have hB : Below W.heap.size W ((W.alloc (.cells cs0 t (0, 0))).setCells W.heap.size 0 cur'.toList) :=
    hB0.trans ⟨s1, s2, s3, by rw [s4]; exact Nat.le_refl _, fun k hk => setCells_far _ _ k (by omega)⟩
  refine Kd.event_run hg1 hrun ?_
  rw [hd1]
  refine wpList_plain hg2 fun K hK => ?_
  have hst : (Instr.storeAt t (.pointer (some ⟨W.heap.size, 0, none⟩)) (.agg cur')).run P (W.alloc (.cells cs0 t (0, 0))) = .ok () ((W.alloc (.cells cs0 t (0, 0))).setCells W.heap.size 0 cur'.toList) :=
    run_store_run t (.agg cur') cur'.toList hb0 rfl (by rw [ht, Array.length_toList]) (by simp [hsz]) (fun q hq => by
      exact List.all_eq_true.1 h1 q hq)
  unfold Oper.wp execOp
  simp only [ho2, hp, hx, Sem.run_bind, Sem.run_pure, Result.andThen_ok, hst]
  show K ((a.put (some N) _).put o2.dst undef) _
  rw [hd2]
  have h6 := h _ rfl _ h3 hB
  rw [hd1] at h6
  exact hK _ _ h6
theorem load_event {W : World} (hgd : o.guard = none) {N : Tmp} (_hd : o.dst = some N) {t : TypeId} {x : Operand} (ho : o.op = .load t x) {p : Addr} {v : Value} (hx : a.eval x = .pointer (some p)) (hrun : (loadVar t p).run P W = .ok v W)
    (h : wpList P ops Q rest (a.put o.dst v) W) : wpList P ops Q (o :: rest) a W := by
  refine wpList_plain hgd fun K hK => ?_
  unfold Oper.wp execOp
  simp only [ho, hx, Instr.loadAt, Instr.sureAddr, Sem.run_bind, Sem.run_pure, Result.andThen_ok, hrun]
  exact hK _ _ h
end
end Go.Proofs.Ytnjeeedndnfglaa
end
section
namespace Go.Proofs.Ytnjeeedndnfglaa
open Go.RowKit Go.Proofs.YtnjeeedndnfglaaW.PrintWords Go.Proofs.YtnjeeedndnfglaaW.PrintLast Go.Proofs.YtnjeeedndnfglaaW.PrintMore
set_option linter.unusedVariables false
def CellsAt (W : World) (p : Addr) : Nat → List Value → Prop
  | _, [] => True
  | k, v :: vs => W.cell? ⟨p.block, p.off + k, none⟩ = some v ∧ CellsAt W p (k + 1) vs
theorem CellsAt.get {W : World} {p : Addr} : ∀ (cs : List Value) (k : Nat), CellsAt W p k cs → ∀ j v, cs[j]? = some v → W.cell? ⟨p.block, p.off + (k + j), none⟩ = some v
  | [], _, _, j, v, h => by simp at h
  | c :: cs, k, hc, 0, v, h => by
    obtain rfl : c = v := by simpa using h
    exact hc.1
  | c :: cs, k, hc, j + 1, v, h => by
    have := CellsAt.get cs (k + 1) hc.2 j v (by simpa using h)
    rwa [show k + 1 + j = k + (j + 1) by omega] at this
theorem plain_addr {w : World} {ad : Addr} {v : Value} (h : w.cell? ad = some v) : ∃ b o, ad = ⟨b, o, none⟩ := by
  obtain ⟨b, o, s⟩ := ad
  cases s with
  | none => exact ⟨b, o, rfl⟩
  | some x =>
    exfalso
    simp only [World.cell?] at h
    split at h <;> simp at h
theorem cells_load_event {P : Program} {ops : Array Oper} {rest : List Oper} {o : Oper} {a : Act} {Q : Exit → Act → World → Prop} {W : World} (hgd : o.guard = none) {N : Tmp} (hd : o.dst = some N) {t : TypeId} {x : Operand} (ho : o.op = .load t x) {p : Addr} (hx : a.eval x = .pointer (some p))
    {v : Value} {cs : List Value} (hD : ∃ D, P.underlying t = some D ∧ (match D with | .struct _ | .array _ _ => true | _ => false) = true) (ht : (P.info? t).map (·.size) = some (cs.length + 1)) (h0 : W.cell? p = some v) (hc : CellsAt W p 1 cs)
    (h : wpList P ops Q rest (a.put o.dst (.agg (v :: cs).toArray)) W) : wpList P ops Q (o :: rest) a W := by
  refine load_event hgd hd ho hx ?_ h
  obtain ⟨D, hu, hD⟩ := hD
  obtain ⟨b, of, rfl⟩ := plain_addr h0
  have hcells : (loadCells ⟨b, of, none⟩ (v :: cs).length).run P W = .ok (v :: cs).toArray W := run_loadCells_list (P := P) W ⟨b, of, none⟩ (v :: cs) (fun j u hu => by
    have ha : (⟨b, of, none⟩ : Addr).add j = ⟨b, of + j, none⟩ := by unfold Addr.add; split <;> simp_all
    rw [ha]
    cases j with
    | zero =>
      obtain rfl : v = u := by simpa using hu
      exact h0
    | succ j =>
      have := CellsAt.get cs 1 hc j u (by simpa using hu)
      rwa [show 1 + j = j + 1 by omega] at this)
  have hagg : (isAgg t).run P W = .ok true W := by
    unfold isAgg
    rw [Sem.run_bind, run_underlying hu W]
    cases D <;> simp_all
  obtain ⟨ti, hi, hs⟩ := Option.map_eq_some_iff.1 ht
  rw [List.length_cons] at hcells
  simp [loadVar, Sem.run_bind, hagg, sizeOf, typeInfo, hi, hs, hcells]
theorem blk_load_event {P : Program} {ops : Array Oper} {rest : List Oper} {o : Oper} {a : Act} {Q : Exit → Act → World → Prop} {W : World} (hgd : o.guard = none) {N : Tmp} (hd : o.dst = some N) {t : TypeId} {x : Operand} (ho : o.op = .load t x) {g : Nat} (hx : a.eval x = .pointer (some ⟨g, 0, none⟩))
    {cs : Array Value} {t' : TypeId} (hb : W.heap[g]? = some (.cells cs t' (0, 0))) (hD : ∃ D, P.underlying t = some D ∧ (match D with | .struct _ | .array _ _ => true | _ => false) = true) (ht : (P.info? t).map (·.size) = some cs.size)
    (h : wpList P ops Q rest (a.put o.dst (.agg cs)) W) : wpList P ops Q (o :: rest) a W := by
  refine load_event hgd hd ho hx ?_ h
  obtain ⟨D, hu, hD⟩ := hD
  have hcells : (loadCells ⟨g, 0, none⟩ cs.size).run P W = .ok cs W := by
    have := run_loadCells_list (P := P) W ⟨g, 0, none⟩ cs.toList (fun j u hu => by
      have ha : (⟨g, 0, none⟩ : Addr).add j = ⟨g, j, none⟩ := by unfold Addr.add; split <;> simp_all
      rw [ha, blk_cell hb j]
      rwa [Array.getElem?_toList] at hu)
    rw [Array.length_toList] at this
    simpa using this
  have hagg : (isAgg t).run P W = .ok true W := by
    unfold isAgg
    rw [Sem.run_bind, run_underlying hu W]
    cases D <;> simp_all
  obtain ⟨ti, hi, hs⟩ := Option.map_eq_some_iff.1 ht
  simp [loadVar, Sem.run_bind, hagg, sizeOf, typeInfo, hi, hs, hcells]
end Go.Proofs.Ytnjeeedndnfglaa
end
section
namespace Go.Proofs.Ytnjeeedndnfglaa.X
open Go.RowKit Go.Proofs.YtnjeeedndnfglaaW.PrintWords Go.Proofs.YtnjeeedndnfglaaW.PrintLast Go.Proofs.YtnjeeedndnfglaaW.PrintMore
set_option linter.unusedVariables false
theorem blk2_ {C : Prop} {w : World} {g : Nat} {t : TypeId} {c0 c1 : Value} (h : w.heap[g]? = some (.cells #[c0, c1] t (0, 0)))
    (k : w.cell? ⟨g, 0, none⟩ = some c0 → w.cell? ⟨g, 1, none⟩ = some c1 → w.frozen? ⟨g, 0, none⟩ = false → w.frozen? ⟨g, 1, none⟩ = false → C) : C :=
  k ((blk_cell h 0).trans rfl) ((blk_cell h 1).trans rfl) (blk_frozen h 0) (blk_frozen h 1)
theorem blk3_ {C : Prop} {w : World} {g : Nat} {t : TypeId} {c0 c1 c2 : Value} (h : w.heap[g]? = some (.cells #[c0, c1, c2] t (0, 0)))
    (k : w.cell? ⟨g, 0, none⟩ = some c0 → w.cell? ⟨g, 1, none⟩ = some c1 → w.cell? ⟨g, 2, none⟩ = some c2 → w.frozen? ⟨g, 0, none⟩ = false → w.frozen? ⟨g, 1, none⟩ = false → w.frozen? ⟨g, 2, none⟩ = false → C) : C :=
  k ((blk_cell h 0).trans rfl) ((blk_cell h 1).trans rfl) ((blk_cell h 2).trans rfl) (blk_frozen h 0) (blk_frozen h 1) (blk_frozen h 2)
theorem blk9_ {C : Prop} {w : World} {g : Nat} {t : TypeId} {c0 c1 c2 c3 c4 c5 c6 c7 c8 : Value} (h : w.heap[g]? = some (.cells #[c0, c1, c2, c3, c4, c5, c6, c7, c8] t (0, 0)))
    (k : w.cell? ⟨g, 0, none⟩ = some c0 → w.cell? ⟨g, 1, none⟩ = some c1 → w.cell? ⟨g, 2, none⟩ = some c2 → w.cell? ⟨g, 3, none⟩ = some c3 → w.cell? ⟨g, 4, none⟩ = some c4 → w.cell? ⟨g, 5, none⟩ = some c5 → w.cell? ⟨g, 6, none⟩ = some c6 → w.cell? ⟨g, 7, none⟩ = some c7 → w.cell? ⟨g, 8, none⟩ = some c8 → w.frozen? ⟨g, 0, none⟩ = false → w.frozen? ⟨g, 1, none⟩ = false → w.frozen? ⟨g, 2, none⟩ = false → w.frozen? ⟨g, 3, none⟩ = false → w.frozen? ⟨g, 4, none⟩ = false → w.frozen? ⟨g, 5, none⟩ = false → w.frozen? ⟨g, 6, none⟩ = false → w.frozen? ⟨g, 7, none⟩ = false → w.frozen? ⟨g, 8, none⟩ = false → C) : C :=
  k ((blk_cell h 0).trans rfl) ((blk_cell h 1).trans rfl) ((blk_cell h 2).trans rfl) ((blk_cell h 3).trans rfl) ((blk_cell h 4).trans rfl) ((blk_cell h 5).trans rfl) ((blk_cell h 6).trans rfl) ((blk_cell h 7).trans rfl) ((blk_cell h 8).trans rfl) (blk_frozen h 0) (blk_frozen h 1) (blk_frozen h 2) (blk_frozen h 3) (blk_frozen h 4) (blk_frozen h 5) (blk_frozen h 6) (blk_frozen h 7) (blk_frozen h 8)
theorem kb_ {w W : World} {g : Nat} {o : Obj} (h : W.heap[g]? = some o) (f : W.heap[g]? = some o → w.heap[g]? = some o := by intro h_; (with_reducible repeat (first | refine blk_alloc ?_ _ | refine blk_drewN ?_ _ | refine blk_drew ?_)); exact h_) : w.heap[g]? = some o := f h
theorem kr_ {α : Type} {d : Kd α} {e base : Nat} {w W : World} {ok : Nat → Prop} {v : Value} {xs : List α} (h : Kd.R d e W base ok v xs) (f : Kd.R d e W base ok v xs → Kd.R d e w base ok v xs := by intro h_; (with_reducible repeat (first | apply Kd.R_alloc | apply Kd.R_drewN | apply Kd.R_drew)); exact h_) : Kd.R d e w base ok v xs := f h
theorem kv_ {α : Type} {d : Kd α} {e base : Nat} {w W : World} {ok : Nat → Prop} {v : Value} {xs : List α} (h : Kd.V d e W base ok v xs) (f : Kd.V d e W base ok v xs → Kd.V d e w base ok v xs := by intro h_; (with_reducible repeat (first | apply Kd.V_alloc | apply Kd.V_drewN | apply Kd.V_drew)); exact h_) : Kd.V d e w base ok v xs := f h
theorem kn_ {α : Type} {d : Kd α} {e base : Nat} {w W : World} {ok : Nat → Prop} {v : Value} {xs : List α} (h : Kd.N d e W base ok v xs) (f : Kd.N d e W base ok v xs → Kd.N d e w base ok v xs := by intro h_; (with_reducible repeat (first | apply Kd.N_alloc | apply Kd.N_drewN | apply Kd.N_drew)); exact h_) : Kd.N d e w base ok v xs := f h
theorem kc_ {α : Type} {d : Kd α} {w W : World} {A : Option Addr} {n : Nat} {xs : List α} (h : Kd.C d W A n xs) (f : Kd.C d W A n xs → Kd.C d w A n xs := by intro h_; repeat (first | exact h_ | (with_reducible refine Kd.C_alloc ?_ _) | (with_reducible refine Kd.C_drewN ?_ _) | (with_reducible refine Kd.C_drew ?_))) : Kd.C d w A n xs := f h
theorem lb_ {B : Nat} {w W : World} (h : Below B w W := by repeat (first | (with_reducible first | exact HB.out | apply below_alloc | apply pw_below_drewN | apply below_drew1) | exact HB.out)) : Below B w W := h
theorem bs_ {α β : Type} {x : Option α} {f : α → Option β} {r : β} (h : x.bind f = some r) : ∃ a, Aside0 (x = some a) ∧ f a = some r := by
  obtain ⟨a, h1, h2⟩ := Option.bind_eq_some_iff.mp h
  exact ⟨a, ⟨h1⟩, h2⟩
end Go.Proofs.Ytnjeeedndnfglaa.X
end
section
namespace Go.Proofs.Ytnjeeedndnfglaa.X
open Go.RowKit Go.Proofs.YtnjeeedndnfglaaW.PrintWords Go.Proofs.YtnjeeedndnfglaaW.PrintLast Go.Proofs.YtnjeeedndnfglaaW.PrintMore
set_option linter.unusedVariables false
theorem bb_ {w W w1 : World} {g : Nat} {o : Obj} (h : Aside0 (W.heap[g]? = some o)) (hb : Below w.heap.size w w1) (f : W.heap[g]? = some o → w.heap[g]? = some o := by intro h_; (with_reducible repeat (first | refine blk_alloc ?_ _ | refine blk_drewN ?_ _ | refine blk_drew ?_)); exact h_) : Aside0 (w1.heap[g]? = some o) := ⟨blk_below (f h.out) hb⟩
theorem na_ {W W0 : World} {g g' : Nat} {o : Obj} (hg : g' = W.heap.size) (h : Aside0 (W0.heap[g]? = some o)) (f : W0.heap[g]? = some o → W.heap[g]? = some o := by intro h_; (with_reducible repeat (first | refine blk_alloc ?_ _ | refine blk_drewN ?_ _ | refine blk_drew ?_)); exact h_) : Aside0 (g ≠ g') := ⟨by rw [hg]; exact Nat.ne_of_lt (blk_lt (f h.out))⟩
theorem nb_ {W W0 : World} {g g' : Nat} {o : Obj} (hg : g' = W.heap.size) (h : Aside0 (W0.heap[g]? = some o)) (f : W0.heap[g]? = some o → W.heap[g]? = some o := by intro h_; (with_reducible repeat (first | refine blk_alloc ?_ _ | refine blk_drewN ?_ _ | refine blk_drew ?_)); exact h_) : Aside0 (g' ≠ g) := ⟨by rw [hg]; exact Nat.ne_of_gt (blk_lt (f h.out))⟩
theorem ge_ {w W W0 : World} {g' : Nat} (H : Aside0 (Below w.heap.size w W0)) (hg : g' = W.heap.size) (f : Below w.heap.size w W0 → Below w.heap.size w W := by intro h_; repeat (first | (with_reducible first | exact h_ | apply below_alloc | apply pw_below_drewN | apply below_drew1 | refine below_set ?_ (Aside0.out (by assumption))) | exact h_)) : Aside0 (w.heap.size ≤ g') := ⟨by rw [hg]; exact below_size (f H.out)⟩
theorem hs_ {w W W0 w1 : World} (H : Aside0 (Below w.heap.size w W0)) (hb : Below W.heap.size W w1) (f : Below w.heap.size w W0 → Below w.heap.size w W := by intro h_; repeat (first | (with_reducible first | exact h_ | apply below_alloc | apply pw_below_drewN | apply below_drew1 | refine below_set ?_ (Aside0.out (by assumption))) | exact h_)) : Aside0 (Below w.heap.size w w1) := ⟨below_step (f H.out) hb⟩
section
variable {α : Type} {d : Kd α} {e base : Nat} {w W w1 : World} {ok : Nat → Prop} {v : Value} {xs : List α}
theorem rb_ (h : Aside0 (Kd.R d e W base ok v xs)) (hb : Below w.heap.size w w1) (f : Kd.R d e W base ok v xs → Kd.R d e w base ok v xs := by intro h_; (with_reducible repeat (first | apply Kd.R_alloc | apply Kd.R_drewN | apply Kd.R_drew)); exact h_) : Aside0 (Kd.R d e w1 base ok v xs) := ⟨Kd.R_below (f h.out) hb⟩
theorem vb_ (h : Aside0 (Kd.V d e W base ok v xs)) (hb : Below w.heap.size w w1) (f : Kd.V d e W base ok v xs → Kd.V d e w base ok v xs := by intro h_; (with_reducible repeat (first | apply Kd.V_alloc | apply Kd.V_drewN | apply Kd.V_drew)); exact h_) : Aside0 (Kd.V d e w1 base ok v xs) := ⟨Kd.V_below (f h.out) hb⟩
theorem nb2_ (h : Aside0 (Kd.N d e W base ok v xs)) (hb : Below w.heap.size w w1) (f : Kd.N d e W base ok v xs → Kd.N d e w base ok v xs := by intro h_; (with_reducible repeat (first | apply Kd.N_alloc | apply Kd.N_drewN | apply Kd.N_drew)); exact h_) : Aside0 (Kd.N d e w1 base ok v xs) := ⟨Kd.N_below (f h.out) hb⟩
theorem re_ {g : Nat} (h : Aside0 (Kd.R d e W base ok v xs)) (hg : g = w.heap.size) (hb : Below w.heap.size w w1) (f : Kd.R d e W base ok v xs → Kd.R d e w base ok v xs := by intro h_; (with_reducible repeat (first | apply Kd.R_alloc | apply Kd.R_drewN | apply Kd.R_drew)); exact h_) : Aside0 (Kd.R d e w1 base (fun k => ok k ∧ k ≠ g) v xs) := ⟨Kd.R_below (Kd.R_elderB (f h.out) g (Nat.le_of_eq hg.symm)) hb⟩
theorem ve_ {g : Nat} (h : Aside0 (Kd.V d e W base ok v xs)) (hg : g = w.heap.size) (hb : Below w.heap.size w w1) (f : Kd.V d e W base ok v xs → Kd.V d e w base ok v xs := by intro h_; (with_reducible repeat (first | apply Kd.V_alloc | apply Kd.V_drewN | apply Kd.V_drew)); exact h_) : Aside0 (Kd.V d e w1 base (fun k => ok k ∧ k ≠ g) v xs) := ⟨Kd.V_below (Kd.V_elderB (f h.out) g (Nat.le_of_eq hg.symm)) hb⟩
theorem ne_ {g : Nat} (h : Aside0 (Kd.N d e W base ok v xs)) (hg : g = w.heap.size) (hb : Below w.heap.size w w1) (f : Kd.N d e W base ok v xs → Kd.N d e w base ok v xs := by intro h_; (with_reducible repeat (first | apply Kd.N_alloc | apply Kd.N_drewN | apply Kd.N_drew)); exact h_) : Aside0 (Kd.N d e w1 base (fun k => ok k ∧ k ≠ g) v xs) := ⟨Kd.N_below (Kd.N_elderB (f h.out) g (Nat.le_of_eq hg.symm)) hb⟩
end
theorem blk1_ {C : Prop} {w : World} {g : Nat} {t : TypeId} {c0 : Value} (h : w.heap[g]? = some (.cells #[c0] t (0, 0)))
    (k : w.cell? ⟨g, 0, none⟩ = some c0 → w.frozen? ⟨g, 0, none⟩ = false → C) : C := k ((blk_cell h 0).trans rfl) (blk_frozen h 0)
theorem bf_ {w W w1 : World} {g : Nat} {o : Obj} (h : Aside0 (W.heap[g]? = some o)) (hb : Below w.heap.size w w1) (f : W.heap[g]? = some o → w.heap[g]? = some o := by intro h_; repeat (first | (with_reducible first | exact h_ | refine blk_alloc ?_ _ | refine blk_drewN ?_ _ | refine blk_drew ?_) | refine blk_far ?_ (Aside0.out (by assumption)) _ | exact h_)) : Aside0 (w1.heap[g]? = some o) := ⟨blk_below (f h.out) hb⟩
theorem bo_ {w W : World} {g : Nat} {o : Obj} (h : Aside0 (W.heap[g]? = some o)) (f : W.heap[g]? = some o → w.heap[g]? = some o := by intro h_; repeat (first | (with_reducible first | exact h_ | refine blk_alloc ?_ _ | refine blk_drewN ?_ _ | refine blk_drew ?_) | refine blk_far ?_ (Aside0.out (by assumption)) _ | exact h_)) : w.heap[g]? = some o := f h.out
theorem ne2_ {C : Prop} {g g' : Nat} (h : Aside0 (g ≠ g')) (k : g ≠ g' → g' ≠ g → C) : C := k h.out h.out.symm
theorem lbt_ {B : Nat} {w W : World} (h : Below B w W := by repeat (first | (with_reducible first | exact HB.out | apply below_alloc | apply pw_below_drewN | apply below_drew1 | refine below_set ?_ (Aside0.out (by assumption))) | exact HB.out)) : Below B w W := h
theorem sm_ {α : Type} {a b : α} (h : a = b := by first | rfl | (simp; done) | (simp [*]; done)) : a = b := h
section
variable {P : Program} {ops : Array Oper} {rest : List Oper} {o : Oper} {a : Act} {Q : Exit → Act → World → Prop} {W : World}
theorem bx_ (N : Tmp) (t : TypeId) (cs : Array Value)
    (h : ∀ g, g = W.heap.size → ∀ w1, w1.heap[g]? = some (.cells cs t (0, 0)) → Below W.heap.size W w1 → wpList P ops Q rest (a.put o.dst (.pointer (some ⟨g, 0, none⟩))) w1)
    (hd : o.dst = some N := by rfl) (hgd : o.guard = none := by rfl)
    (hrun : (execOp a.eval o).run P W = .ok (.value (.pointer (some ⟨W.heap.size, 0, none⟩))) (W.alloc (.cells cs t (0, 0))) := by first | (go_simp; done) | (go_simp; rfl)) : wpList P ops Q (o :: rest) a W := box_event hgd hd hrun h
theorem bl_ (N : Tmp) {t : TypeId} {x : Operand} {g : Nat} {cs : Array Value} {t' : TypeId} (hb : W.heap[g]? = some (.cells cs t' (0, 0))) (hD : ∃ D, P.underlying t = some D ∧ (match D with | .struct _ | .array _ _ => true | _ => false) = true)
    (h : wpList P ops Q rest (a.put o.dst (.agg cs)) W)
    (hgd : o.guard = none := by rfl) (hd : o.dst = some N := by rfl) (ho : o.op = .load t x := by rfl) (hx : a.eval x = .pointer (some ⟨g, 0, none⟩) := by first | rfl | (go_simp; done) | (go_simp; rfl)) (ht : (P.info? t).map (·.size) = some cs.size := by kernel_rfl) : wpList P ops Q (o :: rest) a W := blk_load_event hgd hd ho hx hb hD ht h
theorem gl_ (N : Option Tmp) {f : FuncId} {fn : Func} {os1 : Array Operand} {ts : Array TypeId} (hf : P.funcs[f]? = some fn) (args : Array Value)
    (h : Calls P f args W fun e w' => ∃ v, e = .returned v ∧ wpList P ops Q rest (a.put N v) w')
    (hd : o.dst = N := by rfl) (hg : o.guard = none := by rfl) (hname : (fn.name == "runtime.NumGoroutine") = false := by kernel_rfl) (hb : fn.body.isSome = true := by rfl)
    (hop : o.op = .call { callee := .value (.func f), args := os1, argTypes := ts } := by rfl) (hargs : os1.map a.eval = args := by (try simp only [List.map_toArray, List.map_cons, List.map_nil]); first | done | rfl | (simp only [List.length_drop, List.length_take]; rfl)) : wpList P ops Q (o :: rest) a W := goesL_ N hd hg hf hname hb args hop hargs h
end
def tf_ (k n : Nat) : Array Bool := (List.replicate k true ++ List.replicate n false).toArray
section
variable {P : Program} {ops : Array Oper} {Q : Exit → Act → World → Prop} {md : Region.Mode} {S : World → Prop} {ds : List Nat} {fuel : Nat} {l : Array Bool} {a : Act} {w : World} {T : Bool × List (List Nat × List Nat)} {B : List Nat}
theorem pu_ (i : Nat) (N : Option Tmp) (l' : Array Bool) (hT : Aside0 (rtab md ops = T)) {oi : Oper} {v : Value} {a' : Act}
    (h : wpAnyLast P md ops Q S ds fuel l' a' w)
    (hi : ops[i]? = some oi := by rfl) (hN : oi.dst = N := by rfl) (hc : anyT T l.toList l'.toList i = true := by kernel_rfl)
    (hw : Region.wanted oi (yielded ops a.tmps) = true := by rfl)
    (hy : ∀ w' : World, (execOp a.eval oi).run P w' = .ok (.value v) w' := by intro w'; go_simp; with_reducible rfl)
    (ha : a.put N v = a' := by simp only [Act.put, List.setIfInBounds_toArray, List.set_cons_zero, List.set_cons_succ, i64_w, i32_w]; rfl)
    (hQ : ∀ c a w, Q (.panic c) (a.put oi.dst v) w → Q (.panic c) a w := by exact fun _ _ _ h => h) : wpAnyLast P md ops Q S ds (fuel + 1) l a w :=
  pure_ l' hi hN (any_of hT.out hc) hQ (Or.inl ⟨hw, hy⟩) ha h
theorem tk_ (i : Nat) (N : Option Tmp) (l' : Array Bool) (hT : Aside0 (rtab md ops = T)) (hB : Aside0 (waitsOk T.2 B = true)) (hS : S w) {oi : Oper} {v : Value} {a' : Act}
    (hi : ops[i]? = some oi := by rfl) (hN : oi.dst = N := by rfl) (hc : takeW T B ds l.toList l'.toList i = true := by kernel_rfl)
    (hw : Region.wanted oi (yielded ops a.tmps) = true := by rfl)
    (hy : ∀ w', S w' → (execOp a.eval oi).run P w' = .ok (.value v) w')
    (h : wpAnyLast P md ops Q S ds fuel l' a' w)
    (ha : a.put N v = a' := by simp only [Act.put, List.setIfInBounds_toArray, List.set_cons_zero, List.set_cons_succ, i64_w, i32_w]; rfl)
    (hQ : ∀ c a w, Q (.panic c) (a.put oi.dst v) w → Q (.panic c) a w := by exact fun _ _ _ h => h) : wpAnyLast P md ops Q S ds (fuel + 1) l a w :=
  take_ l' hi hN (take_ofW hT.out hB.out hc) hQ (Or.inl ⟨hw, hy⟩) hS ha h
theorem on_ (i : Nat) (N : Option Tmp) (l' : Array Bool) (hT : Aside0 (rtab md ops = T)) {oi : Oper}
    (h : ∀ K : Act → World → Prop, Shut (∀ a' w', S w' → (S w' → wpAnyLast P md ops Q S ds fuel l' a' w') → K a' w') → if Region.wanted oi (yielded ops a.tmps) = true then Oper.wp P oi a w K Q else K (a.put N undef) w)
    (hi : ops[i]? = some oi := by rfl) (hN : oi.dst = N := by rfl) (hc : (readyT T.2 l.toList == [i] && l.toList.set i true == l'.toList) = true := by kernel_rfl) (hd : i ∉ ds := by decide) : wpAnyLast P md ops Q S ds (fuel + 1) l a w :=
  one_ l' hi hN (one_of hT.out hc) hd h
theorem nr_ (N : Tmp) {v : Value} {a' : Act} (h : wpAnyLast P md ops Q S ds fuel l a' w)
    (ha : Act.put a (some N) v = a' := by simp only [Act.put, List.setIfInBounds_toArray, List.set_cons_zero, List.set_cons_succ, i64_w, i32_w]; rfl) : wpAnyLast P md ops Q S ds fuel l (Act.put a (some N) v) w := norm_ ha h
theorem np_ {b a' : Act} (h : wpAnyLast P md ops Q S ds fuel l a' w)
    (ha : b = a' := by simp only [putAll, Act.put, List.setIfInBounds_toArray, List.set_cons_zero, List.set_cons_succ]; rfl) : wpAnyLast P md ops Q S ds fuel l b w := norm_ ha h
end
end Go.Proofs.Ytnjeeedndnfglaa.X
end
section
namespace Go.Proofs.Ytnjeeedndnfglaa.X
open Go.RowKit Go.Proofs.YtnjeeedndnfglaaW.PrintWords Go.Proofs.YtnjeeedndnfglaaW.PrintLast Go.Proofs.YtnjeeedndnfglaaW.PrintMore
attribute [local go_sem] max2_int min2_int max_two min_two max_three min_three max_four min_four   -- for this text's walks alone
set_option linter.unusedVariables false
set_option linter.unusedSimpArgs false
mutual
def althinglaw05_Few.l0 : Nat → List (S29) → Int → Int → Option (Bool)
 | 0, _, _, _ => none
 | k + 1, x7, x8, x9 => if x9 < x8 then (if 0 ≤ x9 then (if x9 < (x7.length : Int) then (althinglaw05_Few.l1 k 0 x7 x8 x9 ((rd_T29 x7 x9).f0) ((rd_T29 x7 x9).f1.f0) ((rd_T29 x7 x9).f1.f1) ((rd_T29 x7 x9).f2.f0) ((rd_T29 x7 x9).f2.f1) ((rd_T29 x7 x9).f3) ((rd_T29 x7 x9).f4) ((rd_T29 x7 x9).f5) ((rd_T29 x7 x9).f6)) else (none)) else (none)) else (some true)
def althinglaw05_Few.l1 : Nat → Int → List (S29) → Int → Int → Int → Int → Int → Int → Int → Int → List (S38) → List (S40) → Bool → Option (Bool)
 | 0, _, _, _, _, _, _, _, _, _, _, _, _, _ => none
 | k + 1, x5, x7, x8, x9, x103000, x103001, x103002, x103003, x103004, x103005, x103006, x103007, x103008 => if x5 < (x103006.length : Int) then (althinglaw05_Few.j2 k x5 x7 x8 x9 (decide (x5 ≤ 20)) x103000 x103001 x103002 x103003 x103004 x103005 x103006 x103007 x103008) else (althinglaw05_Few.j2 k x5 x7 x8 x9 false x103000 x103001 x103002 x103003 x103004 x103005 x103006 x103007 x103008)
def althinglaw05_Few.j2 : Nat → Int → List (S29) → Int → Int → Bool → Int → Int → Int → Int → Int → Int → List (S38) → List (S40) → Bool → Option (Bool)
 | 0, _, _, _, _, _, _, _, _, _, _, _, _, _, _ => none
 | k + 1, x5, x7, x8, x9, x21, x103000, x103001, x103002, x103003, x103004, x103005, x103006, x103007, x103008 => if x21 = true then (if 0 ≤ x5 then (if x5 < (x103006.length : Int) then (if (((rd_T38 x103006 x5).f0).size : Int) > 100 then (some false) else (althinglaw05_Few.l1 k (wrap64 (x5 + 1)) x7 x8 x9 x103000 x103001 x103002 x103003 x103004 x103005 x103006 x103007 x103008)) else (none)) else (none)) else (althinglaw05_Few.l2 k 0 x7 x8 x9 x103000 x103001 x103002 x103003 x103004 x103005 x103006 x103007 x103008)
def althinglaw05_Few.l2 : Nat → Int → List (S29) → Int → Int → Int → Int → Int → Int → Int → Int → List (S38) → List (S40) → Bool → Option (Bool)
 | 0, _, _, _, _, _, _, _, _, _, _, _, _, _ => none
 | k + 1, x6, x7, x8, x9, x103000, x103001, x103002, x103003, x103004, x103005, x103006, x103007, x103008 => if x6 < (x103007.length : Int) then (althinglaw05_Few.j4 k x6 x7 x8 x9 (decide (x6 ≤ 20)) x103000 x103001 x103002 x103003 x103004 x103005 x103006 x103007 x103008) else (althinglaw05_Few.j4 k x6 x7 x8 x9 false x103000 x103001 x103002 x103003 x103004 x103005 x103006 x103007 x103008)
def althinglaw05_Few.j4 : Nat → Int → List (S29) → Int → Int → Bool → Int → Int → Int → Int → Int → Int → List (S38) → List (S40) → Bool → Option (Bool)
 | 0, _, _, _, _, _, _, _, _, _, _, _, _, _, _ => none
 | k + 1, x6, x7, x8, x9, x40, x103000, x103001, x103002, x103003, x103004, x103005, x103006, x103007, x103008 => if x40 = true then (if 0 ≤ x6 then (if x6 < (x103007.length : Int) then (if (((rd_T40 x103007 x6).f0).size : Int) > 100 then (some false) else (if (((rd_T40 x103007 x6).f1).size : Int) > 100 then (some false) else (althinglaw05_Few.l2 k (wrap64 (x6 + 1)) x7 x8 x9 x103000 x103001 x103002 x103003 x103004 x103005 x103006 x103007 x103008))) else (none)) else (none)) else (if (x103006.length : Int) > 20 then (some false) else (if (x103007.length : Int) > 20 then (some false) else (althinglaw05_Few.l0 k x7 x8 (wrap64 (x9 + 1)))))
end
def althinglaw05_Few.f (k : Nat) (l0 : List (S29)) : Option (Bool) := althinglaw05_Few.l0 k l0 (l0.length : Int) 0
set_option maxHeartbeats 40000000 in
set_option maxRecDepth 100000 in
theorem althinglaw05_Few.calls (k : Nat) (A0 : Option Addr) (c0 : Nat) (l0 : List (S29)) (r : Bool) (w : World) (hr0 : Kd.C k29 w A0 l0.length l0) (hc0 : l0.length ≤ c0) (h : althinglaw05_Few.f k l0 = some r) :
 Calls Try.prog 8 #[.slice A0 l0.length c0] w fun e w' => e = .returned (.bool r) ∧ Below w.heap.size w w' := by
 have hu29 := Try.underlying29
 have HR0 := Aside0.mk hr0
 have HC0 := Aside0.mk hc0
 clear hr0 hc0
 have HB := Aside0.mk (Below.refl w.heap.size w)
 have H : (althinglaw05_Few.l0 k l0 (l0.length : Int) 0) = some r := h
 clear h
 have H' := Aside0.mk H
 clear H
 go_enter Try.func8, Try.ntmps8
 go_wp2
 go_loopg [9] k (fun kq v9 w' => ∃ (x9_1 : Int), v9 = .int .i64 x9_1 ∧ Aside0 (althinglaw05_Few.l0 kq l0 (l0.length : Int) x9_1 = some r) ∧ Aside0 (kq ≤ k) ∧ Aside0 (Below w.heap.size w w'))
 case atStart => exact ⟨(0), sm_, H', ⟨Nat.le_refl _⟩, ⟨by repeat (first | (with_reducible first | exact HB.out | apply below_alloc | apply pw_below_drewN | apply below_drew1) | exact HB.out)⟩⟩
 case round =>
  clear H'
  obtain ⟨x9_1, rfl, HA, HK1, HB⟩ := hrel
  cases gk with
  | zero => exact absurd HA.out (by simp [althinglaw05_Few.l0])
  | succ k1 =>
   have H := HA.out
   clear HA
   simp only [althinglaw05_Few.l0] at H
   by_cases c2 : x9_1 < (l0.length : Int)
   · rw [if_pos c2] at H
     have c2b0 : decide (x9_1 < (l0.length : Int)) = true := decide_eq_true c2
     clear c2
     by_cases c3 : 0 ≤ x9_1
     · rw [if_pos c3] at H
       have c3b0 : decide (0 ≤ x9_1) = true := decide_eq_true c3
       clear c3
       by_cases c4 : x9_1 < (l0.length : Int)
       · rw [if_pos c4] at H
         have c4b0 : decide (x9_1 < (l0.length : Int)) = true := decide_eq_true c4
         clear c4
         have H' := Aside0.mk H
         clear H
         have p101 : 0 ≤ (x9_1 : Int) := of_decide_eq_true (by first | (with_reducible assumption) | assumption)
         have q101 : x9_1 < (l0.length : Int) := of_decide_eq_true (by first | (with_reducible assumption) | assumption)
         obtain ⟨ad101, A101_6, c101_6, A101_7, c101_7, e101, hx101_0, hx101_1, hx101_2, hx101_3, hx101_4, hx101_5, hx101_6, hx101_7, hx101_8, hl101_6, hi101_6, hl101_7, hi101_7⟩ := at_T29 HR0.out x9_1 p101 q101
         cases e101
         replace hx101_0 := (HB.out.cell (World.block_lt_of_cell? w _ hx101_0)).trans hx101_0
         replace hx101_1 := (HB.out.cell (World.block_lt_of_cell? w _ hx101_1)).trans hx101_1
         replace hx101_2 := (HB.out.cell (World.block_lt_of_cell? w _ hx101_2)).trans hx101_2
         replace hx101_3 := (HB.out.cell (World.block_lt_of_cell? w _ hx101_3)).trans hx101_3
         replace hx101_4 := (HB.out.cell (World.block_lt_of_cell? w _ hx101_4)).trans hx101_4
         replace hx101_5 := (HB.out.cell (World.block_lt_of_cell? w _ hx101_5)).trans hx101_5
         replace hx101_6 := (HB.out.cell (World.block_lt_of_cell? w _ hx101_6)).trans hx101_6
         replace hx101_7 := (HB.out.cell (World.block_lt_of_cell? w _ hx101_7)).trans hx101_7
         replace hx101_8 := (HB.out.cell (World.block_lt_of_cell? w _ hx101_8)).trans hx101_8
         have HR101_6 := Aside0.mk hi101_6
         have HC101_6 := Aside0.mk hl101_6
         clear hi101_6 hl101_6
         have HR101_7 := Aside0.mk hi101_7
         have HC101_7 := Aside0.mk hl101_7
         clear hi101_7 hl101_7
         replace p101 := eq_true p101
         replace q101 := eq_true q101
         go_wp2_with (first | ((with_reducible refine gate_dst (N := 12) rfl ?_); refine cells_load_event ?lg (N := 12) ?ld (t := 29) (x := ?lxxz5) ?lo (p := ?lppz5) ?lx (v := .int .i64 ((rd_T29 l0 x9_1).f0)) (cs := [.int .i64 ((rd_T29 l0 x9_1).f1.f0), .int .i64 ((rd_T29 l0 x9_1).f1.f1), .int .i64 ((rd_T29 l0 x9_1).f2.f0), .int .i64 ((rd_T29 l0 x9_1).f2.f1), .int .i64 ((rd_T29 l0 x9_1).f3), .slice A101_6 ((rd_T29 l0 x9_1).f4).length c101_6, .slice A101_7 ((rd_T29 l0 x9_1).f5).length c101_7, .bool ((rd_T29 l0 x9_1).f6)]) ?lD ?lt ?l0 ?lc ?_; (case lg => rfl); (case ld => rfl); (case lo => rfl); (case lx => first | rfl | (go_simp; done) | (go_simp; rfl)); (case lD => exact ⟨_, Try.underlying29, rfl⟩); (case lt => kernel_rfl); (case l0 => exact hx101_0); (case lc => exact ⟨hx101_1, hx101_2, hx101_3, hx101_4, hx101_5, hx101_6, hx101_7, hx101_8, trivial⟩)) | ((with_reducible refine gate_dst (N := 4) rfl ?_); (try (refine gate_guard (by rfl) ?_; dsimp only)); refine alloc_store_event ?hg1 (N := 4) ?hd1 ?hg2 ?hd2 ?ho2 (cs0 := #[.int .i64 0, .int .i64 0, .int .i64 0, .int .i64 0, .int .i64 0, .int .i64 0, .slice none 0 0, .slice none 0 0, .bool false]) (cs := #[.int .i64 ((rd_T29 l0 x9_1).f0), .int .i64 ((rd_T29 l0 x9_1).f1.f0), .int .i64 ((rd_T29 l0 x9_1).f1.f1), .int .i64 ((rd_T29 l0 x9_1).f2.f0), .int .i64 ((rd_T29 l0 x9_1).f2.f1), .int .i64 ((rd_T29 l0 x9_1).f3), .slice A101_6 ((rd_T29 l0 x9_1).f4).length c101_6, .slice A101_7 ((rd_T29 l0 x9_1).f5).length c101_7, .bool ((rd_T29 l0 x9_1).f6)]) (t := 29) (x := ?xxw6) ?hr ?hp ?hx ?hs ?h1 ?ht ?_; (case hg1 => rfl); (case hd1 => rfl); (case hg2 => rfl); (case hd2 => rfl); (case ho2 => rfl); (case hr => first | (go_simp; done) | (go_simp; rfl)); (case hp => rfl); (case hx => rfl); (case hs => rfl); (case h1 => rfl); (case ht => kernel_rfl); intro gb102 hg w6 hbox hb; have BK102 := Aside0.mk hbox; have GE102 := ge_ HB hg; replace HB := hs_ HB hb; clear hb hbox hg))
         go_loopg [5] k1 (fun kq v5 w' => ∃ (x5_2 : Int), v5 = .int .i64 x5_2 ∧ Aside0 (althinglaw05_Few.l1 kq x5_2 l0 (l0.length : Int) x9_1 ((rd_T29 l0 x9_1).f0) ((rd_T29 l0 x9_1).f1.f0) ((rd_T29 l0 x9_1).f1.f1) ((rd_T29 l0 x9_1).f2.f0) ((rd_T29 l0 x9_1).f2.f1) ((rd_T29 l0 x9_1).f3) ((rd_T29 l0 x9_1).f4) ((rd_T29 l0 x9_1).f5) ((rd_T29 l0 x9_1).f6) = some r) ∧ Aside0 (kq ≤ k1) ∧ Aside0 (w'.heap[gb102]? = some (.cells #[.int .i64 ((rd_T29 l0 x9_1).f0), .int .i64 ((rd_T29 l0 x9_1).f1.f0), .int .i64 ((rd_T29 l0 x9_1).f1.f1), .int .i64 ((rd_T29 l0 x9_1).f2.f0), .int .i64 ((rd_T29 l0 x9_1).f2.f1), .int .i64 ((rd_T29 l0 x9_1).f3), (.slice A101_6 ((rd_T29 l0 x9_1).f4).length c101_6), (.slice A101_7 ((rd_T29 l0 x9_1).f5).length c101_7), .bool ((rd_T29 l0 x9_1).f6)] 29 (0, 0))) ∧ Aside0 (Below w.heap.size w w'))
         case atStart => exact ⟨(0), sm_, H', ⟨Nat.le_refl _⟩, ⟨by (with_reducible repeat (first | refine blk_drewN ?_ _ | refine blk_drew ?_ | refine blk_alloc ?_ _)); exact BK102.out⟩, ⟨by repeat (first | (with_reducible first | exact HB.out | apply below_alloc | apply pw_below_drewN | apply below_drew1 | refine below_set ?_ GE102.out) | exact HB.out)⟩⟩
         case round =>
          clear H'
          try clear c1
          try clear p1
          try clear q1
          try clear hx1
          try clear c2
          try clear c2b0
          try clear p2
          try clear c3
          try clear c3b0
          try clear c4
          try clear c4b0
          try clear hx101_0
          try clear hx101_1
          try clear hx101_2
          try clear hx101_3
          try clear hx101_4
          try clear hx101_5
          try clear hx101_6
          try clear hx101_7
          try clear hx101_8
          try clear p101
          try clear q101
          (try clear BK102)
          obtain ⟨x5_2, rfl, HA, HK2, BK102, HB⟩ := hrel
          cases gk with
          | zero => exact absurd HA.out (by simp [althinglaw05_Few.l1])
          | succ k2 =>
           have H := HA.out
           clear HA
           simp only [althinglaw05_Few.l1] at H
           have HC7 := Aside0.mk H
           clear H
           go_upto_region 5 with (fail)
           go_cut [21] (fun v21 wc => ∃ (kq : Nat) (x21_6 : Bool), v21 = .bool x21_6 ∧ Aside0 (althinglaw05_Few.j2 kq x5_2 l0 (l0.length : Int) x9_1 x21_6 ((rd_T29 l0 x9_1).f0) ((rd_T29 l0 x9_1).f1.f0) ((rd_T29 l0 x9_1).f1.f1) ((rd_T29 l0 x9_1).f2.f0) ((rd_T29 l0 x9_1).f2.f1) ((rd_T29 l0 x9_1).f3) ((rd_T29 l0 x9_1).f4) ((rd_T29 l0 x9_1).f5) ((rd_T29 l0 x9_1).f6) = some r) ∧ Aside0 (kq ≤ k2) ∧ Aside0 (wc.heap[gb102]? = some (.cells #[.int .i64 ((rd_T29 l0 x9_1).f0), .int .i64 ((rd_T29 l0 x9_1).f1.f0), .int .i64 ((rd_T29 l0 x9_1).f1.f1), .int .i64 ((rd_T29 l0 x9_1).f2.f0), .int .i64 ((rd_T29 l0 x9_1).f2.f1), .int .i64 ((rd_T29 l0 x9_1).f3), (.slice A101_6 ((rd_T29 l0 x9_1).f4).length c101_6), (.slice A101_7 ((rd_T29 l0 x9_1).f5).length c101_7), .bool ((rd_T29 l0 x9_1).f6)] 29 (0, 0))) ∧ Aside0 (Below w.heap.size w wc))
           case first =>
            have H := HC7.out
            clear HC7
            by_cases c8 : x5_2 < (((rd_T29 l0 x9_1).f4).length : Int)
            · rw [if_pos c8] at H
              have c8b0 : decide (x5_2 < (((rd_T29 l0 x9_1).f4).length : Int)) = true := decide_eq_true c8
              clear c8
              (first | rw [c8b0] | (simp only [i64_w, i32_w]; rw [c8b0]) | skip)
              have H' := Aside0.mk H
              clear H
              refine blk9_ BK102.out fun hcz9_0 hcz9_1 hcz9_2 hcz9_3 hcz9_4 hcz9_5 hcz9_6 hcz9_7 hcz9_8 hfz9_0 hfz9_1 hfz9_2 hfz9_3 hfz9_4 hfz9_5 hfz9_6 hfz9_7 hfz9_8 => ?_
              go_wp2
              go_meet
              case rel => exact ⟨_, (decide (x5_2 ≤ 20)), sm_, H', ⟨by have := HK1.out; have := HK2.out; first | omega | exact Nat.le_refl _⟩, ⟨by (with_reducible repeat (first | refine blk_drewN ?_ _ | refine blk_drew ?_ | refine blk_alloc ?_ _)); exact BK102.out⟩, ⟨by repeat (first | (with_reducible first | exact HB.out | apply below_alloc | apply pw_below_drewN | apply below_drew1 | refine below_set ?_ GE102.out) | exact HB.out)⟩⟩
            · rw [if_neg c8] at H
              have c8b0 : decide (x5_2 < (((rd_T29 l0 x9_1).f4).length : Int)) = false := decide_eq_false c8
              clear c8
              (first | rw [c8b0] | (simp only [i64_w, i32_w]; rw [c8b0]) | skip)
              have H' := Aside0.mk H
              clear H
              refine blk9_ BK102.out fun hcz10_0 hcz10_1 hcz10_2 hcz10_3 hcz10_4 hcz10_5 hcz10_6 hcz10_7 hcz10_8 hfz10_0 hfz10_1 hfz10_2 hfz10_3 hfz10_4 hfz10_5 hfz10_6 hfz10_7 hfz10_8 => ?_
              go_wp2
              go_meet
              case rel => exact ⟨_, (false), sm_, H', ⟨by have := HK1.out; have := HK2.out; first | omega | exact Nat.le_refl _⟩, ⟨by (with_reducible repeat (first | refine blk_drewN ?_ _ | refine blk_drew ?_ | refine blk_alloc ?_ _)); exact BK102.out⟩, ⟨by repeat (first | (with_reducible first | exact HB.out | apply below_alloc | apply pw_below_drewN | apply below_drew1 | refine below_set ?_ GE102.out) | exact HB.out)⟩⟩
           case rest =>
            clear HC7
            try clear c1
            try clear p1
            try clear q1
            try clear hx1
            try clear c2
            try clear c2b0
            try clear p2
            try clear c3
            try clear c3b0
            try clear c4
            try clear c4b0
            try clear c8
            try clear c8b0
            try clear c10
            try clear p10
            try clear q10
            try clear hx10
            try clear hcz10_0 hcz10_1 hcz10_2 hcz10_3 hcz10_4 hcz10_5 hcz10_6 hcz10_7 hcz10_8
            try clear hcz9_0 hcz9_1 hcz9_2 hcz9_3 hcz9_4 hcz9_5 hcz9_6 hcz9_7 hcz9_8
            try clear hfz10_0 hfz10_1 hfz10_2 hfz10_3 hfz10_4 hfz10_5 hfz10_6 hfz10_7 hfz10_8
            try clear hfz9_0 hfz9_1 hfz9_2 hfz9_3 hfz9_4 hfz9_5 hfz9_6 hfz9_7 hfz9_8
            try clear hx101_0
            try clear hx101_1
            try clear hx101_2
            try clear hx101_3
            try clear hx101_4
            try clear hx101_5
            try clear hx101_6
            try clear hx101_7
            try clear hx101_8
            try clear p1
            try clear p101
            try clear p2
            try clear q1
            try clear q101
            obtain ⟨kq, x21_6, rfl, HA, HJ6, BK102, HB⟩ := hcut
            cases kq with
            | zero => exact absurd HA.out (by simp [althinglaw05_Few.j2])
            | succ kj6 =>
             have H := HA.out
             clear HA
             simp only [althinglaw05_Few.j2] at H
             by_cases c11 : x21_6 = true
             · subst c11
               rw [if_pos rfl] at H
               by_cases c12 : 0 ≤ x5_2
               · rw [if_pos c12] at H
                 have c12b0 : decide (0 ≤ x5_2) = true := decide_eq_true c12
                 clear c12
                 by_cases c13 : x5_2 < (((rd_T29 l0 x9_1).f4).length : Int)
                 · rw [if_pos c13] at H
                   have c13b0 : decide (x5_2 < (((rd_T29 l0 x9_1).f4).length : Int)) = true := decide_eq_true c13
                   clear c13
                   by_cases c14 : (((rd_T38 ((rd_T29 l0 x9_1).f4) x5_2).f0).size : Int) > 100
                   · rw [if_pos c14] at H
                     have c14b0 : decide (100 < (((rd_T38 ((rd_T29 l0 x9_1).f4) x5_2).f0).size : Int)) = true := decide_eq_true c14
                     have c14b1 : decide (100 < ((rd_T38 ((rd_T29 l0 x9_1).f4) x5_2).f0).size) = true := decide_eq_true (by omega)
                     clear c14
                     obtain rfl := Option.some.inj H
                     refine blk9_ BK102.out fun hcz15_0 hcz15_1 hcz15_2 hcz15_3 hcz15_4 hcz15_5 hcz15_6 hcz15_7 hcz15_8 hfz15_0 hfz15_1 hfz15_2 hfz15_3 hfz15_4 hfz15_5 hfz15_6 hfz15_7 hfz15_8 => ?_
                     have p103 : 0 ≤ (x5_2 : Int) := of_decide_eq_true (by first | (with_reducible assumption) | assumption)
                     have q103 : x5_2 < (((rd_T29 l0 x9_1).f4).length : Int) := of_decide_eq_true (by first | (with_reducible assumption) | assumption)
                     obtain ⟨ad103, e103, hx103_0, hx103_1, hx103_2⟩ := at_T38 HR101_6.out x5_2 p103 q103
                     cases e103
                     replace hx103_0 := (HB.out.cell (World.block_lt_of_cell? w _ hx103_0)).trans hx103_0
                     replace hx103_1 := (HB.out.cell (World.block_lt_of_cell? w _ hx103_1)).trans hx103_1
                     replace hx103_2 := (HB.out.cell (World.block_lt_of_cell? w _ hx103_2)).trans hx103_2
                     replace p103 := eq_true p103
                     replace q103 := eq_true q103
                     go_wp2
                     go_ret
                     exact ⟨by first | rfl | (simp [errW_none, errW_some] <;> rfl) | (simp [*, errW_none, errW_some] <;> rfl), by repeat (first | (with_reducible first | exact HB.out | apply below_alloc | apply pw_below_drewN | apply below_drew1 | refine below_set ?_ GE102.out) | exact HB.out)⟩
                   · rw [if_neg c14] at H
                     have c14b0 : decide (100 < (((rd_T38 ((rd_T29 l0 x9_1).f4) x5_2).f0).size : Int)) = false := decide_eq_false c14
                     have c14b1 : decide (100 < ((rd_T38 ((rd_T29 l0 x9_1).f4) x5_2).f0).size) = false := decide_eq_false (by omega)
                     clear c14
                     have H' := Aside0.mk H
                     clear H
                     refine blk9_ BK102.out fun hcz16_0 hcz16_1 hcz16_2 hcz16_3 hcz16_4 hcz16_5 hcz16_6 hcz16_7 hcz16_8 hfz16_0 hfz16_1 hfz16_2 hfz16_3 hfz16_4 hfz16_5 hfz16_6 hfz16_7 hfz16_8 => ?_
                     have p103 : 0 ≤ (x5_2 : Int) := of_decide_eq_true (by first | (with_reducible assumption) | assumption)
                     have q103 : x5_2 < (((rd_T29 l0 x9_1).f4).length : Int) := of_decide_eq_true (by first | (with_reducible assumption) | assumption)
                     obtain ⟨ad103, e103, hx103_0, hx103_1, hx103_2⟩ := at_T38 HR101_6.out x5_2 p103 q103
                     cases e103
                     replace hx103_0 := (HB.out.cell (World.block_lt_of_cell? w _ hx103_0)).trans hx103_0
                     replace hx103_1 := (HB.out.cell (World.block_lt_of_cell? w _ hx103_1)).trans hx103_1
                     replace hx103_2 := (HB.out.cell (World.block_lt_of_cell? w _ hx103_2)).trans hx103_2
                     replace p103 := eq_true p103
                     replace q103 := eq_true q103
                     go_wp2
                     go_roundg kj6
                     case measure => have := HK1.out; have := HK2.out; have := HJ6.out; omega
                     case rel => exact ⟨(wrap64 (x5_2 + 1)), sm_, H', ⟨by have := HK1.out; have := HK2.out; have := HJ6.out; omega⟩, ⟨by (with_reducible repeat (first | refine blk_drewN ?_ _ | refine blk_drew ?_ | refine blk_alloc ?_ _)); exact BK102.out⟩, ⟨by repeat (first | (with_reducible first | exact HB.out | apply below_alloc | apply pw_below_drewN | apply below_drew1 | refine below_set ?_ GE102.out) | exact HB.out)⟩⟩
                 · rw [if_neg c13] at H
                   exact absurd H (by simp)
               · rw [if_neg c12] at H
                 exact absurd H (by simp)
             · replace c11 := Bool.eq_false_iff.mpr c11
               subst c11
               rw [if_neg (show ¬ (false = true) by decide)] at H
               have H' := Aside0.mk H
               clear H
               go_wp2
               go_loopg [6] kj6 (fun kq v6 w' => ∃ (x6_4 : Int), v6 = .int .i64 x6_4 ∧ Aside0 (althinglaw05_Few.l2 kq x6_4 l0 (l0.length : Int) x9_1 ((rd_T29 l0 x9_1).f0) ((rd_T29 l0 x9_1).f1.f0) ((rd_T29 l0 x9_1).f1.f1) ((rd_T29 l0 x9_1).f2.f0) ((rd_T29 l0 x9_1).f2.f1) ((rd_T29 l0 x9_1).f3) ((rd_T29 l0 x9_1).f4) ((rd_T29 l0 x9_1).f5) ((rd_T29 l0 x9_1).f6) = some r) ∧ Aside0 (kq ≤ kj6) ∧ Aside0 (w'.heap[gb102]? = some (.cells #[.int .i64 ((rd_T29 l0 x9_1).f0), .int .i64 ((rd_T29 l0 x9_1).f1.f0), .int .i64 ((rd_T29 l0 x9_1).f1.f1), .int .i64 ((rd_T29 l0 x9_1).f2.f0), .int .i64 ((rd_T29 l0 x9_1).f2.f1), .int .i64 ((rd_T29 l0 x9_1).f3), (.slice A101_6 ((rd_T29 l0 x9_1).f4).length c101_6), (.slice A101_7 ((rd_T29 l0 x9_1).f5).length c101_7), .bool ((rd_T29 l0 x9_1).f6)] 29 (0, 0))) ∧ Aside0 (Below w.heap.size w w'))
               case atStart => exact ⟨(0), sm_, H', ⟨Nat.le_refl _⟩, ⟨by (with_reducible repeat (first | refine blk_drewN ?_ _ | refine blk_drew ?_ | refine blk_alloc ?_ _)); exact BK102.out⟩, ⟨by repeat (first | (with_reducible first | exact HB.out | apply below_alloc | apply pw_below_drewN | apply below_drew1 | refine below_set ?_ GE102.out) | exact HB.out)⟩⟩
               case round =>
                clear H'
                try clear c1
                try clear p1
                try clear q1
                try clear hx1
                try clear c2
                try clear c2b0
                try clear p2
                try clear c3
                try clear c3b0
                try clear c4
                try clear c4b0
                try clear p6
                try clear c8
                try clear c8b0
                try clear c10
                try clear p10
                try clear q10
                try clear hx10
                try clear c11
                try clear c12
                try clear c12b0
                try clear c13
                try clear c13b0
                try clear c14
                try clear c14b0
                try clear c14b1
                try clear hcz10_0 hcz10_1 hcz10_2 hcz10_3 hcz10_4 hcz10_5 hcz10_6 hcz10_7 hcz10_8
                try clear hcz15_0 hcz15_1 hcz15_2 hcz15_3 hcz15_4 hcz15_5 hcz15_6 hcz15_7 hcz15_8
                try clear hcz16_0 hcz16_1 hcz16_2 hcz16_3 hcz16_4 hcz16_5 hcz16_6 hcz16_7 hcz16_8
                try clear hcz9_0 hcz9_1 hcz9_2 hcz9_3 hcz9_4 hcz9_5 hcz9_6 hcz9_7 hcz9_8
                try clear hfz10_0 hfz10_1 hfz10_2 hfz10_3 hfz10_4 hfz10_5 hfz10_6 hfz10_7 hfz10_8
                try clear hfz15_0 hfz15_1 hfz15_2 hfz15_3 hfz15_4 hfz15_5 hfz15_6 hfz15_7 hfz15_8
                try clear hfz16_0 hfz16_1 hfz16_2 hfz16_3 hfz16_4 hfz16_5 hfz16_6 hfz16_7 hfz16_8
                try clear hfz9_0 hfz9_1 hfz9_2 hfz9_3 hfz9_4 hfz9_5 hfz9_6 hfz9_7 hfz9_8
                try clear hx101_0
                try clear hx101_1
                try clear hx101_2
                try clear hx101_3
                try clear hx101_4
                try clear hx101_5
                try clear hx101_6
                try clear hx101_7
                try clear hx101_8
                try clear hx103_0
                try clear hx103_1
                try clear hx103_2
                try clear p1
                try clear p10
                try clear p101
                try clear p103
                try clear p2
                try clear q1
                try clear q10
                try clear q101
                try clear q103
                (try clear BK102)
                obtain ⟨x6_4, rfl, HA, HK4, BK102, HB⟩ := hrel
                cases gk with
                | zero => exact absurd HA.out (by simp [althinglaw05_Few.l2])
                | succ k4 =>
                 have H := HA.out
                 clear HA
                 simp only [althinglaw05_Few.l2] at H
                 have HC17 := Aside0.mk H
                 clear H
                 go_upto_region 10 with (fail)
                 go_cut [40] (fun v40 wc => ∃ (kq : Nat) (x40_16 : Bool), v40 = .bool x40_16 ∧ Aside0 (althinglaw05_Few.j4 kq x6_4 l0 (l0.length : Int) x9_1 x40_16 ((rd_T29 l0 x9_1).f0) ((rd_T29 l0 x9_1).f1.f0) ((rd_T29 l0 x9_1).f1.f1) ((rd_T29 l0 x9_1).f2.f0) ((rd_T29 l0 x9_1).f2.f1) ((rd_T29 l0 x9_1).f3) ((rd_T29 l0 x9_1).f4) ((rd_T29 l0 x9_1).f5) ((rd_T29 l0 x9_1).f6) = some r) ∧ Aside0 (kq ≤ k4) ∧ Aside0 (wc.heap[gb102]? = some (.cells #[.int .i64 ((rd_T29 l0 x9_1).f0), .int .i64 ((rd_T29 l0 x9_1).f1.f0), .int .i64 ((rd_T29 l0 x9_1).f1.f1), .int .i64 ((rd_T29 l0 x9_1).f2.f0), .int .i64 ((rd_T29 l0 x9_1).f2.f1), .int .i64 ((rd_T29 l0 x9_1).f3), (.slice A101_6 ((rd_T29 l0 x9_1).f4).length c101_6), (.slice A101_7 ((rd_T29 l0 x9_1).f5).length c101_7), .bool ((rd_T29 l0 x9_1).f6)] 29 (0, 0))) ∧ Aside0 (Below w.heap.size w wc))
                 case first =>
                  have H := HC17.out
                  clear HC17
                  by_cases c18 : x6_4 < (((rd_T29 l0 x9_1).f5).length : Int)
                  · rw [if_pos c18] at H
                    have c18b0 : decide (x6_4 < (((rd_T29 l0 x9_1).f5).length : Int)) = true := decide_eq_true c18
                    clear c18
                    (first | rw [c18b0] | (simp only [i64_w, i32_w]; rw [c18b0]) | skip)
                    have H' := Aside0.mk H
                    clear H
                    refine blk9_ BK102.out fun hcz19_0 hcz19_1 hcz19_2 hcz19_3 hcz19_4 hcz19_5 hcz19_6 hcz19_7 hcz19_8 hfz19_0 hfz19_1 hfz19_2 hfz19_3 hfz19_4 hfz19_5 hfz19_6 hfz19_7 hfz19_8 => ?_
                    go_wp2
                    go_meet
                    case rel => exact ⟨_, (decide (x6_4 ≤ 20)), sm_, H', ⟨by have := HK1.out; have := HK2.out; have := HJ6.out; have := HK4.out; first | omega | exact Nat.le_refl _⟩, ⟨by (with_reducible repeat (first | refine blk_drewN ?_ _ | refine blk_drew ?_ | refine blk_alloc ?_ _)); exact BK102.out⟩, ⟨by repeat (first | (with_reducible first | exact HB.out | apply below_alloc | apply pw_below_drewN | apply below_drew1 | refine below_set ?_ GE102.out) | exact HB.out)⟩⟩
                  · rw [if_neg c18] at H
                    have c18b0 : decide (x6_4 < (((rd_T29 l0 x9_1).f5).length : Int)) = false := decide_eq_false c18
                    clear c18
                    (first | rw [c18b0] | (simp only [i64_w, i32_w]; rw [c18b0]) | skip)
                    have H' := Aside0.mk H
                    clear H
                    refine blk9_ BK102.out fun hcz20_0 hcz20_1 hcz20_2 hcz20_3 hcz20_4 hcz20_5 hcz20_6 hcz20_7 hcz20_8 hfz20_0 hfz20_1 hfz20_2 hfz20_3 hfz20_4 hfz20_5 hfz20_6 hfz20_7 hfz20_8 => ?_
                    go_wp2
                    go_meet
                    case rel => exact ⟨_, (false), sm_, H', ⟨by have := HK1.out; have := HK2.out; have := HJ6.out; have := HK4.out; first | omega | exact Nat.le_refl _⟩, ⟨by (with_reducible repeat (first | refine blk_drewN ?_ _ | refine blk_drew ?_ | refine blk_alloc ?_ _)); exact BK102.out⟩, ⟨by repeat (first | (with_reducible first | exact HB.out | apply below_alloc | apply pw_below_drewN | apply below_drew1 | refine below_set ?_ GE102.out) | exact HB.out)⟩⟩
                 case rest =>
                  clear HC17
                  try clear c1
                  try clear p1
                  try clear q1
                  try clear hx1
                  try clear c2
                  try clear c2b0
                  try clear p2
                  try clear c3
                  try clear c3b0
                  try clear c4
                  try clear c4b0
                  try clear p6
                  try clear c8
                  try clear c8b0
                  try clear c10
                  try clear p10
                  try clear q10
                  try clear hx10
                  try clear c11
                  try clear c12
                  try clear c12b0
                  try clear c13
                  try clear c13b0
                  try clear c14
                  try clear c14b0
                  try clear c14b1
                  try clear c18
                  try clear c18b0
                  try clear hcz10_0 hcz10_1 hcz10_2 hcz10_3 hcz10_4 hcz10_5 hcz10_6 hcz10_7 hcz10_8
                  try clear hcz15_0 hcz15_1 hcz15_2 hcz15_3 hcz15_4 hcz15_5 hcz15_6 hcz15_7 hcz15_8
                  try clear hcz16_0 hcz16_1 hcz16_2 hcz16_3 hcz16_4 hcz16_5 hcz16_6 hcz16_7 hcz16_8
                  try clear hcz19_0 hcz19_1 hcz19_2 hcz19_3 hcz19_4 hcz19_5 hcz19_6 hcz19_7 hcz19_8
                  try clear hcz20_0 hcz20_1 hcz20_2 hcz20_3 hcz20_4 hcz20_5 hcz20_6 hcz20_7 hcz20_8
                  try clear hcz9_0 hcz9_1 hcz9_2 hcz9_3 hcz9_4 hcz9_5 hcz9_6 hcz9_7 hcz9_8
                  try clear hfz10_0 hfz10_1 hfz10_2 hfz10_3 hfz10_4 hfz10_5 hfz10_6 hfz10_7 hfz10_8
                  try clear hfz15_0 hfz15_1 hfz15_2 hfz15_3 hfz15_4 hfz15_5 hfz15_6 hfz15_7 hfz15_8
                  try clear hfz16_0 hfz16_1 hfz16_2 hfz16_3 hfz16_4 hfz16_5 hfz16_6 hfz16_7 hfz16_8
                  try clear hfz19_0 hfz19_1 hfz19_2 hfz19_3 hfz19_4 hfz19_5 hfz19_6 hfz19_7 hfz19_8
                  try clear hfz20_0 hfz20_1 hfz20_2 hfz20_3 hfz20_4 hfz20_5 hfz20_6 hfz20_7 hfz20_8
                  try clear hfz9_0 hfz9_1 hfz9_2 hfz9_3 hfz9_4 hfz9_5 hfz9_6 hfz9_7 hfz9_8
                  try clear hx101_0
                  try clear hx101_1
                  try clear hx101_2
                  try clear hx101_3
                  try clear hx101_4
                  try clear hx101_5
                  try clear hx101_6
                  try clear hx101_7
                  try clear hx101_8
                  try clear hx103_0
                  try clear hx103_1
                  try clear hx103_2
                  try clear p1
                  try clear p10
                  try clear p101
                  try clear p103
                  try clear p2
                  try clear p6
                  try clear q1
                  try clear q10
                  try clear q101
                  try clear q103
                  obtain ⟨kq, x40_16, rfl, HA, HJ16, BK102, HB⟩ := hcut
                  cases kq with
                  | zero => exact absurd HA.out (by simp [althinglaw05_Few.j4])
                  | succ kj16 =>
                   have H := HA.out
                   clear HA
                   simp only [althinglaw05_Few.j4] at H
                   by_cases c21 : x40_16 = true
                   · subst c21
                     rw [if_pos rfl] at H
                     by_cases c22 : 0 ≤ x6_4
                     · rw [if_pos c22] at H
                       have c22b0 : decide (0 ≤ x6_4) = true := decide_eq_true c22
                       clear c22
                       by_cases c23 : x6_4 < (((rd_T29 l0 x9_1).f5).length : Int)
                       · rw [if_pos c23] at H
                         have c23b0 : decide (x6_4 < (((rd_T29 l0 x9_1).f5).length : Int)) = true := decide_eq_true c23
                         clear c23
                         by_cases c24 : (((rd_T40 ((rd_T29 l0 x9_1).f5) x6_4).f0).size : Int) > 100
                         · rw [if_pos c24] at H
                           have c24b0 : decide (100 < (((rd_T40 ((rd_T29 l0 x9_1).f5) x6_4).f0).size : Int)) = true := decide_eq_true c24
                           have c24b1 : decide (100 < ((rd_T40 ((rd_T29 l0 x9_1).f5) x6_4).f0).size) = true := decide_eq_true (by omega)
                           clear c24
                           obtain rfl := Option.some.inj H
                           refine blk9_ BK102.out fun hcz25_0 hcz25_1 hcz25_2 hcz25_3 hcz25_4 hcz25_5 hcz25_6 hcz25_7 hcz25_8 hfz25_0 hfz25_1 hfz25_2 hfz25_3 hfz25_4 hfz25_5 hfz25_6 hfz25_7 hfz25_8 => ?_
                           have p104 : 0 ≤ (x6_4 : Int) := of_decide_eq_true (by first | (with_reducible assumption) | assumption)
                           have q104 : x6_4 < (((rd_T29 l0 x9_1).f5).length : Int) := of_decide_eq_true (by first | (with_reducible assumption) | assumption)
                           obtain ⟨ad104, e104, hx104_0, hx104_1⟩ := at_T40 HR101_7.out x6_4 p104 q104
                           cases e104
                           replace hx104_0 := (HB.out.cell (World.block_lt_of_cell? w _ hx104_0)).trans hx104_0
                           replace hx104_1 := (HB.out.cell (World.block_lt_of_cell? w _ hx104_1)).trans hx104_1
                           replace p104 := eq_true p104
                           replace q104 := eq_true q104
                           go_wp2
                           go_ret
                           exact ⟨by first | rfl | (simp [errW_none, errW_some] <;> rfl) | (simp [*, errW_none, errW_some] <;> rfl), by repeat (first | (with_reducible first | exact HB.out | apply below_alloc | apply pw_below_drewN | apply below_drew1 | refine below_set ?_ GE102.out) | exact HB.out)⟩
                         · rw [if_neg c24] at H
                           have c24b0 : decide (100 < (((rd_T40 ((rd_T29 l0 x9_1).f5) x6_4).f0).size : Int)) = false := decide_eq_false c24
                           have c24b1 : decide (100 < ((rd_T40 ((rd_T29 l0 x9_1).f5) x6_4).f0).size) = false := decide_eq_false (by omega)
                           clear c24
                           by_cases c26 : (((rd_T40 ((rd_T29 l0 x9_1).f5) x6_4).f1).size : Int) > 100
                           · rw [if_pos c26] at H
                             have c26b0 : decide (100 < (((rd_T40 ((rd_T29 l0 x9_1).f5) x6_4).f1).size : Int)) = true := decide_eq_true c26
                             have c26b1 : decide (100 < ((rd_T40 ((rd_T29 l0 x9_1).f5) x6_4).f1).size) = true := decide_eq_true (by omega)
                             clear c26
                             obtain rfl := Option.some.inj H
                             refine blk9_ BK102.out fun hcz27_0 hcz27_1 hcz27_2 hcz27_3 hcz27_4 hcz27_5 hcz27_6 hcz27_7 hcz27_8 hfz27_0 hfz27_1 hfz27_2 hfz27_3 hfz27_4 hfz27_5 hfz27_6 hfz27_7 hfz27_8 => ?_
                             have p104 : 0 ≤ (x6_4 : Int) := of_decide_eq_true (by first | (with_reducible assumption) | assumption)
                             have q104 : x6_4 < (((rd_T29 l0 x9_1).f5).length : Int) := of_decide_eq_true (by first | (with_reducible assumption) | assumption)
                             obtain ⟨ad104, e104, hx104_0, hx104_1⟩ := at_T40 HR101_7.out x6_4 p104 q104
                             cases e104
                             replace hx104_0 := (HB.out.cell (World.block_lt_of_cell? w _ hx104_0)).trans hx104_0
                             replace hx104_1 := (HB.out.cell (World.block_lt_of_cell? w _ hx104_1)).trans hx104_1
                             replace p104 := eq_true p104
                             replace q104 := eq_true q104
                             have p105 : 0 ≤ (x6_4 : Int) := of_decide_eq_true (by first | (with_reducible assumption) | assumption)
                             have q105 : x6_4 < (((rd_T29 l0 x9_1).f5).length : Int) := of_decide_eq_true (by first | (with_reducible assumption) | assumption)
                             obtain ⟨ad105, e105, hx105_0, hx105_1⟩ := at_T40 HR101_7.out x6_4 p105 q105
                             obtain rfl : ad104 = ad105 := (by injection e105)
                             replace hx105_0 := (HB.out.cell (World.block_lt_of_cell? w _ hx105_0)).trans hx105_0
                             replace hx105_1 := (HB.out.cell (World.block_lt_of_cell? w _ hx105_1)).trans hx105_1
                             replace p105 := eq_true p105
                             replace q105 := eq_true q105
                             go_wp2
                             go_ret
                             exact ⟨by first | rfl | (simp [errW_none, errW_some] <;> rfl) | (simp [*, errW_none, errW_some] <;> rfl), by repeat (first | (with_reducible first | exact HB.out | apply below_alloc | apply pw_below_drewN | apply below_drew1 | refine below_set ?_ GE102.out) | exact HB.out)⟩
                           · rw [if_neg c26] at H
                             have c26b0 : decide (100 < (((rd_T40 ((rd_T29 l0 x9_1).f5) x6_4).f1).size : Int)) = false := decide_eq_false c26
                             have c26b1 : decide (100 < ((rd_T40 ((rd_T29 l0 x9_1).f5) x6_4).f1).size) = false := decide_eq_false (by omega)
                             clear c26
                             have H' := Aside0.mk H
                             clear H
                             refine blk9_ BK102.out fun hcz28_0 hcz28_1 hcz28_2 hcz28_3 hcz28_4 hcz28_5 hcz28_6 hcz28_7 hcz28_8 hfz28_0 hfz28_1 hfz28_2 hfz28_3 hfz28_4 hfz28_5 hfz28_6 hfz28_7 hfz28_8 => ?_
                             have p104 : 0 ≤ (x6_4 : Int) := of_decide_eq_true (by first | (with_reducible assumption) | assumption)
                             have q104 : x6_4 < (((rd_T29 l0 x9_1).f5).length : Int) := of_decide_eq_true (by first | (with_reducible assumption) | assumption)
                             obtain ⟨ad104, e104, hx104_0, hx104_1⟩ := at_T40 HR101_7.out x6_4 p104 q104
                             cases e104
                             replace hx104_0 := (HB.out.cell (World.block_lt_of_cell? w _ hx104_0)).trans hx104_0
                             replace hx104_1 := (HB.out.cell (World.block_lt_of_cell? w _ hx104_1)).trans hx104_1
                             replace p104 := eq_true p104
                             replace q104 := eq_true q104
                             have p105 : 0 ≤ (x6_4 : Int) := of_decide_eq_true (by first | (with_reducible assumption) | assumption)
                             have q105 : x6_4 < (((rd_T29 l0 x9_1).f5).length : Int) := of_decide_eq_true (by first | (with_reducible assumption) | assumption)
                             obtain ⟨ad105, e105, hx105_0, hx105_1⟩ := at_T40 HR101_7.out x6_4 p105 q105
                             obtain rfl : ad104 = ad105 := (by injection e105)
                             replace hx105_0 := (HB.out.cell (World.block_lt_of_cell? w _ hx105_0)).trans hx105_0
                             replace hx105_1 := (HB.out.cell (World.block_lt_of_cell? w _ hx105_1)).trans hx105_1
                             replace p105 := eq_true p105
                             replace q105 := eq_true q105
                             go_wp2
                             go_roundg kj16
                             case measure => have := HK1.out; have := HK2.out; have := HJ6.out; have := HK4.out; have := HJ16.out; omega
                             case rel => exact ⟨(wrap64 (x6_4 + 1)), sm_, H', ⟨by have := HK1.out; have := HK2.out; have := HJ6.out; have := HK4.out; have := HJ16.out; omega⟩, ⟨by (with_reducible repeat (first | refine blk_drewN ?_ _ | refine blk_drew ?_ | refine blk_alloc ?_ _)); exact BK102.out⟩, ⟨by repeat (first | (with_reducible first | exact HB.out | apply below_alloc | apply pw_below_drewN | apply below_drew1 | refine below_set ?_ GE102.out) | exact HB.out)⟩⟩
                       · rw [if_neg c23] at H
                         exact absurd H (by simp)
                     · rw [if_neg c22] at H
                       exact absurd H (by simp)
                   · replace c21 := Bool.eq_false_iff.mpr c21
                     subst c21
                     rw [if_neg (show ¬ (false = true) by decide)] at H
                     by_cases c29 : (((rd_T29 l0 x9_1).f4).length : Int) > 20
                     · rw [if_pos c29] at H
                       have c29b0 : decide (20 < (((rd_T29 l0 x9_1).f4).length : Int)) = true := decide_eq_true c29
                       have c29b1 : decide (20 < ((rd_T29 l0 x9_1).f4).length) = true := decide_eq_true (by omega)
                       clear c29
                       obtain rfl := Option.some.inj H
                       refine blk9_ BK102.out fun hcz30_0 hcz30_1 hcz30_2 hcz30_3 hcz30_4 hcz30_5 hcz30_6 hcz30_7 hcz30_8 hfz30_0 hfz30_1 hfz30_2 hfz30_3 hfz30_4 hfz30_5 hfz30_6 hfz30_7 hfz30_8 => ?_
                       go_wp2
                       go_ret
                       exact ⟨by first | rfl | (simp [errW_none, errW_some] <;> rfl) | (simp [*, errW_none, errW_some] <;> rfl), by repeat (first | (with_reducible first | exact HB.out | apply below_alloc | apply pw_below_drewN | apply below_drew1 | refine below_set ?_ GE102.out) | exact HB.out)⟩
                     · rw [if_neg c29] at H
                       have c29b0 : decide (20 < (((rd_T29 l0 x9_1).f4).length : Int)) = false := decide_eq_false c29
                       have c29b1 : decide (20 < ((rd_T29 l0 x9_1).f4).length) = false := decide_eq_false (by omega)
                       clear c29
                       by_cases c31 : (((rd_T29 l0 x9_1).f5).length : Int) > 20
                       · rw [if_pos c31] at H
                         have c31b0 : decide (20 < (((rd_T29 l0 x9_1).f5).length : Int)) = true := decide_eq_true c31
                         have c31b1 : decide (20 < ((rd_T29 l0 x9_1).f5).length) = true := decide_eq_true (by omega)
                         clear c31
                         obtain rfl := Option.some.inj H
                         refine blk9_ BK102.out fun hcz32_0 hcz32_1 hcz32_2 hcz32_3 hcz32_4 hcz32_5 hcz32_6 hcz32_7 hcz32_8 hfz32_0 hfz32_1 hfz32_2 hfz32_3 hfz32_4 hfz32_5 hfz32_6 hfz32_7 hfz32_8 => ?_
                         go_wp2
                         go_ret
                         exact ⟨by first | rfl | (simp [errW_none, errW_some] <;> rfl) | (simp [*, errW_none, errW_some] <;> rfl), by repeat (first | (with_reducible first | exact HB.out | apply below_alloc | apply pw_below_drewN | apply below_drew1 | refine below_set ?_ GE102.out) | exact HB.out)⟩
                       · rw [if_neg c31] at H
                         have c31b0 : decide (20 < (((rd_T29 l0 x9_1).f5).length : Int)) = false := decide_eq_false c31
                         have c31b1 : decide (20 < ((rd_T29 l0 x9_1).f5).length) = false := decide_eq_false (by omega)
                         clear c31
                         have H' := Aside0.mk H
                         clear H
                         refine blk9_ BK102.out fun hcz33_0 hcz33_1 hcz33_2 hcz33_3 hcz33_4 hcz33_5 hcz33_6 hcz33_7 hcz33_8 hfz33_0 hfz33_1 hfz33_2 hfz33_3 hfz33_4 hfz33_5 hfz33_6 hfz33_7 hfz33_8 => ?_
                         go_wp2
                         go_roundg kj16
                         case measure => have := HK1.out; have := HK2.out; have := HJ6.out; have := HK4.out; have := HJ16.out; omega
                         case rel => exact ⟨(wrap64 (x9_1 + 1)), sm_, H', ⟨by have := HK1.out; have := HK2.out; have := HJ6.out; have := HK4.out; have := HJ16.out; omega⟩, ⟨by repeat (first | (with_reducible first | exact HB.out | apply below_alloc | apply pw_below_drewN | apply below_drew1 | refine below_set ?_ GE102.out) | exact HB.out)⟩⟩
       · rw [if_neg c4] at H
         exact absurd H (by simp)
     · rw [if_neg c3] at H
       exact absurd H (by simp)
   · rw [if_neg c2] at H
     have c2b0 : decide (x9_1 < (l0.length : Int)) = false := decide_eq_false c2
     clear c2
     obtain rfl := Option.some.inj H
     go_wp2
     go_ret
     exact ⟨by first | rfl | (simp [errW_none, errW_some] <;> rfl) | (simp [*, errW_none, errW_some] <;> rfl), by repeat (first | (with_reducible first | exact HB.out | apply below_alloc | apply pw_below_drewN | apply below_drew1) | exact HB.out)⟩
end Go.Proofs.Ytnjeeedndnfglaa.X
end
section
namespace Go.Proofs.Ytnjeeedndnfglaa.X
open Go.RowKit Go.Proofs.YtnjeeedndnfglaaW.PrintWords Go.Proofs.YtnjeeedndnfglaaW.PrintLast Go.Proofs.YtnjeeedndnfglaaW.PrintMore
attribute [local go_sem] max2_int min2_int max_two min_two max_three min_three max_four min_four   -- for this text's walks alone
set_option linter.unusedVariables false
set_option linter.unusedSimpArgs false
def command_read.l0 : Nat → List ByteArray → List (S38) → Int → Int → Option (List ByteArray)
 | 0, _, _, _, _ => none
 | k + 1, x3, x7, x8, x9 => if x9 < x8 then (if 0 ≤ x9 then (if x9 < (x7.length : Int) then (if x3.length < 8796093022208 then (command_read.l0 k (x3 ++ [(rd_T38 x7 x9).f0]) x7 x8 (wrap64 (x9 + 1))) else (none)) else (none)) else (none)) else (some x3)
def command_read.f (k : Nat) (a0_0 : Int) (a0_1 : Int) (a0_2 : Int) (a0_3 : Int) (a0_4 : Int) (a0_5 : Int) (l0_6 : List (S38)) (l0_7 : List (S40)) (a0_8 : Bool) : Option (List ByteArray) := command_read.l0 k ([] : List ByteArray) l0_6 (l0_6.length : Int) 0
set_option maxHeartbeats 40000000 in
set_option maxRecDepth 100000 in
theorem command_read.calls (k : Nat) (a0_0 : Int) (a0_1 : Int) (a0_2 : Int) (a0_3 : Int) (a0_4 : Int) (a0_5 : Int) (A0_6 : Option Addr) (c0_6 : Nat) (l0_6 : List (S38)) (A0_7 : Option Addr) (c0_7 : Nat) (l0_7 : List (S40)) (a0_8 : Bool) (r : List ByteArray) (w : World) (hr0_6 : Kd.C k38 w A0_6 l0_6.length l0_6) (hc0_6 : l0_6.length ≤ c0_6) (hr0_7 : Kd.C k40 w A0_7 l0_7.length l0_7) (hc0_7 : l0_7.length ≤ c0_7) (h : command_read.f k a0_0 a0_1 a0_2 a0_3 a0_4 a0_5 l0_6 l0_7 a0_8 = some r) :
 Calls Try.prog 32 #[.agg #[.int .i64 a0_0, .int .i64 a0_1, .int .i64 a0_2, .int .i64 a0_3, .int .i64 a0_4, .int .i64 a0_5, .slice A0_6 l0_6.length c0_6, .slice A0_7 l0_7.length c0_7, .bool a0_8]] w fun e w' => ∃ v0_ : Value, e = .returned (v0_) ∧ Kd.R Kd.string 9 w' w.heap.size (fun _ => True) v0_ r ∧ Below w.heap.size w w' := by
 have hu29 := Try.underlying29
 have hu38 := Try.underlying38
 have HR0_6 := Aside0.mk hr0_6
 have HC0_6 := Aside0.mk hc0_6
 clear hr0_6 hc0_6
 have HR0_7 := Aside0.mk hr0_7
 have HC0_7 := Aside0.mk hc0_7
 clear hr0_7 hc0_7
 have HB := Aside0.mk (Below.refl w.heap.size w)
 have H : (command_read.l0 k ([] : List ByteArray) l0_6 (l0_6.length : Int) 0) = some r := h
 clear h
 have H' := Aside0.mk H
 clear H
 go_enter Try.func32, Try.ntmps32
 go_wp2_with (first | ((with_reducible refine gate_dst (N := 1) rfl ?_); refine bx_ 1 29 #[.int .i64 a0_0, .int .i64 a0_1, .int .i64 a0_2, .int .i64 a0_3, .int .i64 a0_4, .int .i64 a0_5, .slice A0_6 l0_6.length c0_6, .slice A0_7 l0_7.length c0_7, .bool a0_8] ?_; intro gb106 hg w2 hbox hb; have BK106 := Aside0.mk hbox; have GE106 := ge_ HB hg; replace HB := hs_ HB hb; clear hb hbox hg; refine blk9_ BK106.out fun hcz3_0 hcz3_1 hcz3_2 hcz3_3 hcz3_4 hcz3_5 hcz3_6 hcz3_7 hcz3_8 hfz3_0 hfz3_1 hfz3_2 hfz3_3 hfz3_4 hfz3_5 hfz3_6 hfz3_7 hfz3_8 => ?_))
 go_loopg [3, 9] k (fun kq v3 v9 w' => ∃ (x3_1 : List ByteArray) (x9_1 : Int), v9 = .int .i64 x9_1 ∧ Aside0 (command_read.l0 kq x3_1 l0_6 (l0_6.length : Int) x9_1 = some r) ∧ Aside0 (kq ≤ k) ∧ Aside0 (Kd.R Kd.string 9 w' w.heap.size (fun _ => True) v3 x3_1) ∧ Aside0 (w'.heap[gb106]? = some (.cells #[.int .i64 a0_0, .int .i64 a0_1, .int .i64 a0_2, .int .i64 a0_3, .int .i64 a0_4, .int .i64 a0_5, (.slice A0_6 l0_6.length c0_6), (.slice A0_7 l0_7.length c0_7), .bool a0_8] 29 (0, 0))) ∧ Aside0 (Below w.heap.size w w'))
 case atStart => exact ⟨(([] : List ByteArray)), (0), sm_, H', ⟨Nat.le_refl _⟩, ⟨by first | exact Kd.R_nil _ _ _ _ _ | exact Kd.N_nil _ _ _ _ _ | exact Kd.V_nil _ _ _ _ _ | exact Kd.Q_nil _ _ _ _ _ | exact Kd.S_nil _ _ _ _ _⟩, ⟨by (with_reducible repeat (first | refine blk_drewN ?_ _ | refine blk_drew ?_ | refine blk_alloc ?_ _)); exact BK106.out⟩, ⟨by repeat (first | (with_reducible first | exact HB.out | apply below_alloc | apply pw_below_drewN | apply below_drew1 | refine below_set ?_ GE106.out) | exact HB.out)⟩⟩
 case round =>
  clear H'
  try clear p2
  try clear c3
  try clear hcz3_0 hcz3_1 hcz3_2 hcz3_3 hcz3_4 hcz3_5 hcz3_6 hcz3_7 hcz3_8
  try clear hfz3_0 hfz3_1 hfz3_2 hfz3_3 hfz3_4 hfz3_5 hfz3_6 hfz3_7 hfz3_8
  (try clear BK106)
  obtain ⟨x3_1, x9_1, rfl, HA, HK1, HO_3, BK106, HB⟩ := hrel
  cases gk with
  | zero => exact absurd HA.out (by simp [command_read.l0])
  | succ k1 =>
   have H := HA.out
   clear HA
   simp only [command_read.l0] at H
   by_cases c4 : x9_1 < (l0_6.length : Int)
   · rw [if_pos c4] at H
     have c4b0 : decide (x9_1 < (l0_6.length : Int)) = true := decide_eq_true c4
     clear c4
     by_cases c5 : 0 ≤ x9_1
     · rw [if_pos c5] at H
       have c5b0 : decide (0 ≤ x9_1) = true := decide_eq_true c5
       clear c5
       by_cases c6 : x9_1 < (l0_6.length : Int)
       · rw [if_pos c6] at H
         have c6b0 : decide (x9_1 < (l0_6.length : Int)) = true := decide_eq_true c6
         clear c6
         by_cases c7 : x3_1.length < 8796093022208
         · rw [if_pos c7] at H
           have LMc7 := Aside0.mk c7
           clear c7
           obtain ⟨y109, hy109⟩ : ∃ y_ : List ByteArray, y_ = (x3_1 ++ [(rd_T38 l0_6 x9_1).f0]) := ⟨_, rfl⟩
           replace H : (command_read.l0 k1 y109 l0_6 (l0_6.length : Int) (wrap64 (x9_1 + 1))) = some r := by first | (rw [hy109]; with_reducible exact H) | (have H2_ := (Option.bind_some _ _).symm.trans H; rw [hy109]; with_reducible exact H2_) | (have H2_ := (Option.bind_some _ _).symm.trans H; with_reducible exact H2_) | with_reducible exact H | (rw [hy109]; exact H) | exact H
           have Ny109 := Aside0.mk hy109
           clear hy109
           have H' := Aside0.mk H
           clear H
           have p107 : 0 ≤ (x9_1 : Int) := of_decide_eq_true (by first | (with_reducible assumption) | assumption)
           have q107 : x9_1 < (l0_6.length : Int) := of_decide_eq_true (by first | (with_reducible assumption) | assumption)
           obtain ⟨ad107, e107, hx107_0, hx107_1, hx107_2⟩ := at_T38 HR0_6.out x9_1 p107 q107
           cases e107
           replace hx107_0 := (HB.out.cell (World.block_lt_of_cell? w _ hx107_0)).trans hx107_0
           replace hx107_1 := (HB.out.cell (World.block_lt_of_cell? w _ hx107_1)).trans hx107_1
           replace hx107_2 := (HB.out.cell (World.block_lt_of_cell? w _ hx107_2)).trans hx107_2
           replace p107 := eq_true p107
           replace q107 := eq_true q107
           go_wp2_with (first | ((with_reducible refine gate_dst (N := 5) rfl ?_); refine bx_ 5 38 #[.string (⟨#[]⟩ : ByteArray), .int .i64 0, .int .i64 0] ?_; intro gb108 hg w8 hbox hb; have BK108 := Aside0.mk hbox; have GE108 := ge_ HB hg; have NB106_108 := na_ hg BK106; have NB108_106 := nb_ hg BK106; replace HO_3 := rb_ HO_3 hb; replace BK106 := bb_ BK106 hb; replace HB := hs_ HB hb; clear hb hbox hg; refine ne2_ NB108_106 fun hnb9 hnc9 => ?_; refine blk3_ BK108.out fun hcz10_0 hcz10_1 hcz10_2 hfz10_0 hfz10_1 hfz10_2 => ?_) | ((with_reducible refine gate_builtin (b := .append) (xs := #[.tmp 13, .tmp 16]) rfl ?_); at_builtin; refine Kd.R_append Kd.string (w0 := w) w.heap.size rfl (.tmp 13) (.tmp 16) 45 9 (.string ⟨#[]⟩) 16 rfl Try.underlying45 info9 rfl (by decide) (by omega) u3 x3_1 ((rd_T38 l0_6 x9_1).f0) [.string ((rd_T38 l0_6 x9_1).f0)] (fun _ => True) (fun _ => False) rfl (by first | (go_simp; done) | (go_simp; rfl)) ?aP (fun _ hk => hk.elim) ?aF ?aO ?aB ?aS ?aL ?_; (case aP => exact rfl); (case aB => exact lbt_); (case aF => exact (fun _ _ => trivial)); (case aO => exact (by (with_reducible repeat (first | apply Kd.R_alloc | apply Kd.R_drewN | apply Kd.R_drew)); exact Kd.R_mono (Kd.R_far (p := ⟨gb108, 2, none⟩) (Kd.R_far (p := ⟨gb108, 1, none⟩) (Kd.R_far (p := ⟨gb108, 0, none⟩) (Kd.R_types HO_3.out BK108.out (by decide)) (fun _ hk => hk.2) (.string ((rd_T38 l0_6 x9_1).f0))) (fun _ hk => hk.2) (.int .i64 ((rd_T38 l0_6 x9_1).f1.f0))) (fun _ hk => hk.2) (.int .i64 ((rd_T38 l0_6 x9_1).f1.f1))) (fun _ hk => trivial))); (case aS => exact (below_size lbt_)); (case aL => have := LMc7.out; omega); intro v110 w11 ho hb hg hat; rw [← Ny109.out] at ho; have n0_ := Aside0.mk (blk_grown (g := gb106) (o := .cells #[.int .i64 a0_0, .int .i64 a0_1, .int .i64 a0_2, .int .i64 a0_3, .int .i64 a0_4, .int .i64 a0_5, .slice (some ad107) l0_6.length c0_6, .slice A0_7 l0_7.length c0_7, .bool a0_8] 29 (0, 0)) (by (with_reducible repeat (first | refine blk_drewN ?_ _ | refine blk_drew ?_ | refine blk_alloc ?_ _)); refine blk_far ?_ NB106_108.out _; (with_reducible repeat (first | refine blk_drewN ?_ _ | refine blk_drew ?_ | refine blk_alloc ?_ _)); refine blk_far ?_ NB106_108.out _; (with_reducible repeat (first | refine blk_drewN ?_ _ | refine blk_drew ?_ | refine blk_alloc ?_ _)); refine blk_far ?_ NB106_108.out _; (with_reducible repeat (first | refine blk_drewN ?_ _ | refine blk_drew ?_ | refine blk_alloc ?_ _)); exact BK106.out) hg (Kd.R_ne HO_3.out BK106.out (by decide))); have n1_ := Aside0.mk (blk_grown (g := gb108) (o := .cells #[.string ((rd_T38 l0_6 x9_1).f0), .int .i64 ((rd_T38 l0_6 x9_1).f1.f0), .int .i64 ((rd_T38 l0_6 x9_1).f1.f1)] 38 (0, 0)) (by (with_reducible repeat (first | refine blk_drewN ?_ _ | refine blk_drew ?_ | refine blk_alloc ?_ _)); refine blk_put (cs := #[.string ((rd_T38 l0_6 x9_1).f0), .int .i64 ((rd_T38 l0_6 x9_1).f1.f0), .int .i64 0]) ?_ 2 _ rfl; (with_reducible repeat (first | refine blk_drewN ?_ _ | refine blk_drew ?_ | refine blk_alloc ?_ _)); refine blk_put (cs := #[.string ((rd_T38 l0_6 x9_1).f0), .int .i64 0, .int .i64 0]) ?_ 1 _ rfl; (with_reducible repeat (first | refine blk_drewN ?_ _ | refine blk_drew ?_ | refine blk_alloc ?_ _)); refine blk_put (cs := #[.string (⟨#[]⟩ : ByteArray), .int .i64 0, .int .i64 0]) ?_ 0 _ rfl; (with_reducible repeat (first | refine blk_drewN ?_ _ | refine blk_drew ?_ | refine blk_alloc ?_ _)); exact BK108.out) hg (Kd.R_ne HO_3.out BK108.out (by decide))); have n2_ := Aside0.mk (hb); have n3_ := Aside0.mk (ho); clear BK106 BK108 HB HO_3; have BK106 := n0_; have BK108 := n1_; have HB := n2_; have HO111 := n3_; clear n0_ n1_ n2_ n3_ ho hb hg hat))
           go_roundg k1
           case measure => have := HK1.out; omega
           case rel => exact ⟨(y109), (wrap64 (x9_1 + 1)), sm_, H', ⟨by have := HK1.out; omega⟩, ⟨kr_ HO111.out⟩, ⟨by (with_reducible repeat (first | refine blk_drewN ?_ _ | refine blk_drew ?_ | refine blk_alloc ?_ _)); exact BK106.out⟩, ⟨by repeat (first | (with_reducible first | exact HB.out | apply below_alloc | apply pw_below_drewN | apply below_drew1 | refine below_set ?_ GE106.out | refine below_set ?_ GE108.out) | exact HB.out)⟩⟩
         · rw [if_neg c7] at H
           exact absurd H (by simp)
       · rw [if_neg c6] at H
         exact absurd H (by simp)
     · rw [if_neg c5] at H
       exact absurd H (by simp)
   · rw [if_neg c4] at H
     have c4b0 : decide (x9_1 < (l0_6.length : Int)) = false := decide_eq_false c4
     clear c4
     obtain rfl := Option.some.inj H
     go_wp2
     go_ret
     exact ⟨_, by first | rfl | (simp [errW_none, errW_some] <;> rfl) | (simp [*, errW_none, errW_some] <;> rfl), by (with_reducible repeat (first | apply Kd.R_alloc | apply Kd.R_drewN | apply Kd.R_drew)); exact HO_3.out, by repeat (first | (with_reducible first | exact HB.out | apply below_alloc | apply pw_below_drewN | apply below_drew1 | refine below_set ?_ GE106.out) | exact HB.out)⟩
end Go.Proofs.Ytnjeeedndnfglaa.X
end
section
namespace Go.Proofs.Ytnjeeedndnfglaa.X
open Go.RowKit Go.Proofs.YtnjeeedndnfglaaW.PrintWords Go.Proofs.YtnjeeedndnfglaaW.PrintLast Go.Proofs.YtnjeeedndnfglaaW.PrintMore
attribute [local go_sem] max2_int min2_int max_two min_two max_three min_three max_four min_four   -- for this text's walks alone
set_option linter.unusedVariables false
set_option linter.unusedSimpArgs false
def command_written.l0 : Nat → List ByteArray → List (S40) → Int → Int → Option (List ByteArray)
 | 0, _, _, _, _ => none
 | k + 1, x3, x7, x8, x9 => if x9 < x8 then (if 0 ≤ x9 then (if x9 < (x7.length : Int) then (if x3.length < 8796093022208 then (command_written.l0 k (x3 ++ [(rd_T40 x7 x9).f0]) x7 x8 (wrap64 (x9 + 1))) else (none)) else (none)) else (none)) else (some x3)
def command_written.f (k : Nat) (a0_0 : Int) (a0_1 : Int) (a0_2 : Int) (a0_3 : Int) (a0_4 : Int) (a0_5 : Int) (l0_6 : List (S38)) (l0_7 : List (S40)) (a0_8 : Bool) : Option (List ByteArray) := command_written.l0 k ([] : List ByteArray) l0_7 (l0_7.length : Int) 0
set_option maxHeartbeats 40000000 in
set_option maxRecDepth 100000 in
theorem command_written.calls (k : Nat) (a0_0 : Int) (a0_1 : Int) (a0_2 : Int) (a0_3 : Int) (a0_4 : Int) (a0_5 : Int) (A0_6 : Option Addr) (c0_6 : Nat) (l0_6 : List (S38)) (A0_7 : Option Addr) (c0_7 : Nat) (l0_7 : List (S40)) (a0_8 : Bool) (r : List ByteArray) (w : World) (hr0_6 : Kd.C k38 w A0_6 l0_6.length l0_6) (hc0_6 : l0_6.length ≤ c0_6) (hr0_7 : Kd.C k40 w A0_7 l0_7.length l0_7) (hc0_7 : l0_7.length ≤ c0_7) (h : command_written.f k a0_0 a0_1 a0_2 a0_3 a0_4 a0_5 l0_6 l0_7 a0_8 = some r) :
 Calls Try.prog 33 #[.agg #[.int .i64 a0_0, .int .i64 a0_1, .int .i64 a0_2, .int .i64 a0_3, .int .i64 a0_4, .int .i64 a0_5, .slice A0_6 l0_6.length c0_6, .slice A0_7 l0_7.length c0_7, .bool a0_8]] w fun e w' => ∃ v0_ : Value, e = .returned (v0_) ∧ Kd.R Kd.string 9 w' w.heap.size (fun _ => True) v0_ r ∧ Below w.heap.size w w' := by
 have hu29 := Try.underlying29
 have hu40 := Try.underlying40
 have HR0_6 := Aside0.mk hr0_6
 have HC0_6 := Aside0.mk hc0_6
 clear hr0_6 hc0_6
 have HR0_7 := Aside0.mk hr0_7
 have HC0_7 := Aside0.mk hc0_7
 clear hr0_7 hc0_7
 have HB := Aside0.mk (Below.refl w.heap.size w)
 have H : (command_written.l0 k ([] : List ByteArray) l0_7 (l0_7.length : Int) 0) = some r := h
 clear h
 have H' := Aside0.mk H
 clear H
 go_enter Try.func33, Try.ntmps33
 go_wp2_with (first | ((with_reducible refine gate_dst (N := 1) rfl ?_); refine bx_ 1 29 #[.int .i64 a0_0, .int .i64 a0_1, .int .i64 a0_2, .int .i64 a0_3, .int .i64 a0_4, .int .i64 a0_5, .slice A0_6 l0_6.length c0_6, .slice A0_7 l0_7.length c0_7, .bool a0_8] ?_; intro gb112 hg w2 hbox hb; have BK112 := Aside0.mk hbox; have GE112 := ge_ HB hg; replace HB := hs_ HB hb; clear hb hbox hg; refine blk9_ BK112.out fun hcz3_0 hcz3_1 hcz3_2 hcz3_3 hcz3_4 hcz3_5 hcz3_6 hcz3_7 hcz3_8 hfz3_0 hfz3_1 hfz3_2 hfz3_3 hfz3_4 hfz3_5 hfz3_6 hfz3_7 hfz3_8 => ?_))
 go_loopg [3, 9] k (fun kq v3 v9 w' => ∃ (x3_1 : List ByteArray) (x9_1 : Int), v9 = .int .i64 x9_1 ∧ Aside0 (command_written.l0 kq x3_1 l0_7 (l0_7.length : Int) x9_1 = some r) ∧ Aside0 (kq ≤ k) ∧ Aside0 (Kd.R Kd.string 9 w' w.heap.size (fun _ => True) v3 x3_1) ∧ Aside0 (w'.heap[gb112]? = some (.cells #[.int .i64 a0_0, .int .i64 a0_1, .int .i64 a0_2, .int .i64 a0_3, .int .i64 a0_4, .int .i64 a0_5, (.slice A0_6 l0_6.length c0_6), (.slice A0_7 l0_7.length c0_7), .bool a0_8] 29 (0, 0))) ∧ Aside0 (Below w.heap.size w w'))
 case atStart => exact ⟨(([] : List ByteArray)), (0), sm_, H', ⟨Nat.le_refl _⟩, ⟨by first | exact Kd.R_nil _ _ _ _ _ | exact Kd.N_nil _ _ _ _ _ | exact Kd.V_nil _ _ _ _ _ | exact Kd.Q_nil _ _ _ _ _ | exact Kd.S_nil _ _ _ _ _⟩, ⟨by (with_reducible repeat (first | refine blk_drewN ?_ _ | refine blk_drew ?_ | refine blk_alloc ?_ _)); exact BK112.out⟩, ⟨by repeat (first | (with_reducible first | exact HB.out | apply below_alloc | apply pw_below_drewN | apply below_drew1 | refine below_set ?_ GE112.out) | exact HB.out)⟩⟩
 case round =>
  clear H'
  try clear p2
  try clear c3
  try clear hcz3_0 hcz3_1 hcz3_2 hcz3_3 hcz3_4 hcz3_5 hcz3_6 hcz3_7 hcz3_8
  try clear hfz3_0 hfz3_1 hfz3_2 hfz3_3 hfz3_4 hfz3_5 hfz3_6 hfz3_7 hfz3_8
  (try clear BK112)
  obtain ⟨x3_1, x9_1, rfl, HA, HK1, HO_3, BK112, HB⟩ := hrel
  cases gk with
  | zero => exact absurd HA.out (by simp [command_written.l0])
  | succ k1 =>
   have H := HA.out
   clear HA
   simp only [command_written.l0] at H
   by_cases c4 : x9_1 < (l0_7.length : Int)
   · rw [if_pos c4] at H
     have c4b0 : decide (x9_1 < (l0_7.length : Int)) = true := decide_eq_true c4
     clear c4
     by_cases c5 : 0 ≤ x9_1
     · rw [if_pos c5] at H
       have c5b0 : decide (0 ≤ x9_1) = true := decide_eq_true c5
       clear c5
       by_cases c6 : x9_1 < (l0_7.length : Int)
       · rw [if_pos c6] at H
         have c6b0 : decide (x9_1 < (l0_7.length : Int)) = true := decide_eq_true c6
         clear c6
         by_cases c7 : x3_1.length < 8796093022208
         · rw [if_pos c7] at H
           have LMc7 := Aside0.mk c7
           clear c7
           obtain ⟨y115, hy115⟩ : ∃ y_ : List ByteArray, y_ = (x3_1 ++ [(rd_T40 l0_7 x9_1).f0]) := ⟨_, rfl⟩
           replace H : (command_written.l0 k1 y115 l0_7 (l0_7.length : Int) (wrap64 (x9_1 + 1))) = some r := by first | (rw [hy115]; with_reducible exact H) | (have H2_ := (Option.bind_some _ _).symm.trans H; rw [hy115]; with_reducible exact H2_) | (have H2_ := (Option.bind_some _ _).symm.trans H; with_reducible exact H2_) | with_reducible exact H | (rw [hy115]; exact H) | exact H
           have Ny115 := Aside0.mk hy115
           clear hy115
           have H' := Aside0.mk H
           clear H
           have p113 : 0 ≤ (x9_1 : Int) := of_decide_eq_true (by first | (with_reducible assumption) | assumption)
           have q113 : x9_1 < (l0_7.length : Int) := of_decide_eq_true (by first | (with_reducible assumption) | assumption)
           obtain ⟨ad113, e113, hx113_0, hx113_1⟩ := at_T40 HR0_7.out x9_1 p113 q113
           cases e113
           replace hx113_0 := (HB.out.cell (World.block_lt_of_cell? w _ hx113_0)).trans hx113_0
           replace hx113_1 := (HB.out.cell (World.block_lt_of_cell? w _ hx113_1)).trans hx113_1
           replace p113 := eq_true p113
           replace q113 := eq_true q113
           go_wp2_with (first | ((with_reducible refine gate_dst (N := 5) rfl ?_); refine bx_ 5 40 #[.string (⟨#[]⟩ : ByteArray), .string (⟨#[]⟩ : ByteArray)] ?_; intro gb114 hg w8 hbox hb; have BK114 := Aside0.mk hbox; have GE114 := ge_ HB hg; have NB112_114 := na_ hg BK112; have NB114_112 := nb_ hg BK112; replace HO_3 := rb_ HO_3 hb; replace BK112 := bb_ BK112 hb; replace HB := hs_ HB hb; clear hb hbox hg; refine ne2_ NB114_112 fun hnb9 hnc9 => ?_; refine blk2_ BK114.out fun hcz10_0 hcz10_1 hfz10_0 hfz10_1 => ?_) | ((with_reducible refine gate_builtin (b := .append) (xs := #[.tmp 13, .tmp 16]) rfl ?_); at_builtin; refine Kd.R_append Kd.string (w0 := w) w.heap.size rfl (.tmp 13) (.tmp 16) 45 9 (.string ⟨#[]⟩) 16 rfl Try.underlying45 info9 rfl (by decide) (by omega) u3 x3_1 ((rd_T40 l0_7 x9_1).f0) [.string ((rd_T40 l0_7 x9_1).f0)] (fun _ => True) (fun _ => False) rfl (by first | (go_simp; done) | (go_simp; rfl)) ?aP (fun _ hk => hk.elim) ?aF ?aO ?aB ?aS ?aL ?_; (case aP => exact rfl); (case aB => exact lbt_); (case aF => exact (fun _ _ => trivial)); (case aO => exact (by (with_reducible repeat (first | apply Kd.R_alloc | apply Kd.R_drewN | apply Kd.R_drew)); exact Kd.R_mono (Kd.R_far (p := ⟨gb114, 1, none⟩) (Kd.R_far (p := ⟨gb114, 0, none⟩) (Kd.R_types HO_3.out BK114.out (by decide)) (fun _ hk => hk.2) (.string ((rd_T40 l0_7 x9_1).f0))) (fun _ hk => hk.2) (.string ((rd_T40 l0_7 x9_1).f1))) (fun _ hk => trivial))); (case aS => exact (below_size lbt_)); (case aL => have := LMc7.out; omega); intro v116 w11 ho hb hg hat; rw [← Ny115.out] at ho; have n0_ := Aside0.mk (blk_grown (g := gb112) (o := .cells #[.int .i64 a0_0, .int .i64 a0_1, .int .i64 a0_2, .int .i64 a0_3, .int .i64 a0_4, .int .i64 a0_5, .slice A0_6 l0_6.length c0_6, .slice (some ad113) l0_7.length c0_7, .bool a0_8] 29 (0, 0)) (by (with_reducible repeat (first | refine blk_drewN ?_ _ | refine blk_drew ?_ | refine blk_alloc ?_ _)); refine blk_far ?_ NB112_114.out _; (with_reducible repeat (first | refine blk_drewN ?_ _ | refine blk_drew ?_ | refine blk_alloc ?_ _)); refine blk_far ?_ NB112_114.out _; (with_reducible repeat (first | refine blk_drewN ?_ _ | refine blk_drew ?_ | refine blk_alloc ?_ _)); exact BK112.out) hg (Kd.R_ne HO_3.out BK112.out (by decide))); have n1_ := Aside0.mk (blk_grown (g := gb114) (o := .cells #[.string ((rd_T40 l0_7 x9_1).f0), .string ((rd_T40 l0_7 x9_1).f1)] 40 (0, 0)) (by (with_reducible repeat (first | refine blk_drewN ?_ _ | refine blk_drew ?_ | refine blk_alloc ?_ _)); refine blk_put (cs := #[.string ((rd_T40 l0_7 x9_1).f0), .string (⟨#[]⟩ : ByteArray)]) ?_ 1 _ rfl; (with_reducible repeat (first | refine blk_drewN ?_ _ | refine blk_drew ?_ | refine blk_alloc ?_ _)); refine blk_put (cs := #[.string (⟨#[]⟩ : ByteArray), .string (⟨#[]⟩ : ByteArray)]) ?_ 0 _ rfl; (with_reducible repeat (first | refine blk_drewN ?_ _ | refine blk_drew ?_ | refine blk_alloc ?_ _)); exact BK114.out) hg (Kd.R_ne HO_3.out BK114.out (by decide))); have n2_ := Aside0.mk (hb); have n3_ := Aside0.mk (ho); clear BK112 BK114 HB HO_3; have BK112 := n0_; have BK114 := n1_; have HB := n2_; have HO117 := n3_; clear n0_ n1_ n2_ n3_ ho hb hg hat))
           go_roundg k1
           case measure => have := HK1.out; omega
           case rel => exact ⟨(y115), (wrap64 (x9_1 + 1)), sm_, H', ⟨by have := HK1.out; omega⟩, ⟨kr_ HO117.out⟩, ⟨by (with_reducible repeat (first | refine blk_drewN ?_ _ | refine blk_drew ?_ | refine blk_alloc ?_ _)); exact BK112.out⟩, ⟨by repeat (first | (with_reducible first | exact HB.out | apply below_alloc | apply pw_below_drewN | apply below_drew1 | refine below_set ?_ GE112.out | refine below_set ?_ GE114.out) | exact HB.out)⟩⟩
         · rw [if_neg c7] at H
           exact absurd H (by simp)
       · rw [if_neg c6] at H
         exact absurd H (by simp)
     · rw [if_neg c5] at H
       exact absurd H (by simp)
   · rw [if_neg c4] at H
     have c4b0 : decide (x9_1 < (l0_7.length : Int)) = false := decide_eq_false c4
     clear c4
     obtain rfl := Option.some.inj H
     go_wp2
     go_ret
     exact ⟨_, by first | rfl | (simp [errW_none, errW_some] <;> rfl) | (simp [*, errW_none, errW_some] <;> rfl), by (with_reducible repeat (first | apply Kd.R_alloc | apply Kd.R_drewN | apply Kd.R_drew)); exact HO_3.out, by repeat (first | (with_reducible first | exact HB.out | apply below_alloc | apply pw_below_drewN | apply below_drew1 | refine below_set ?_ GE112.out) | exact HB.out)⟩
end Go.Proofs.Ytnjeeedndnfglaa.X
end
section
namespace Go.Proofs.Ytnjeeedndnfglaa.Strs
open Go.RowKit Go.Proofs.YtnjeeedndnfglaaW.PrintWords Go.Proofs.YtnjeeedndnfglaaW.PrintLast Go.Proofs.YtnjeeedndnfglaaW.PrintMore Go.Proofs.Ytnjeeedndnfglaa.X
set_option linter.unusedSimpArgs false
set_option linter.unusedVariables false
theorem sorted_unique {α : Type} (R : α → α → Prop) (irr : ∀ x, ¬ R x x) (tr : ∀ x y z, R x y → R y z → R x z) :
    ∀ l m : List α, l.Pairwise R → m.Pairwise R → (∀ x, x ∈ l ↔ x ∈ m) → l = m
  | [], [], _, _, _ => rfl
  | [], y :: m, _, _, h => absurd ((h y).2 (by simp)) (by simp)
  | x :: l, [], _, _, h => absurd ((h x).1 (by simp)) (by simp)
  | x :: l, y :: m, hl, hm, h => by
    rw [List.pairwise_cons] at hl hm
    have hxy : x = y := by
      rcases List.mem_cons.1 ((h x).1 (by simp)) with e | e
      · exact e
      · rcases List.mem_cons.1 ((h y).2 (by simp)) with e2 | e2
        · exact e2.symm
        · exact absurd (tr _ _ _ (hm.1 x e) (hl.1 y e2)) (irr y)
    subst hxy
    congr 1
    refine sorted_unique R irr tr l m hl.2 hm.2 (fun z => ⟨fun hz => ?_, fun hz => ?_⟩)
    · rcases List.mem_cons.1 ((h z).1 (List.mem_cons_of_mem _ hz)) with e | e
      · subst e; exact absurd (hl.1 z hz) (irr z)
      · exact e
    · rcases List.mem_cons.1 ((h z).2 (List.mem_cons_of_mem _ hz)) with e | e
      · subst e; exact absurd (hm.1 z hz) (irr z)
      · exact e
theorem toList_eq (s : ByteArray) : s.toList = s.data.toList := by
  exact ByteArray.toList_eq s
def blt (x y : ByteArray) : Prop := x.data.toList < y.data.toList
theorem blt_irrefl (x : ByteArray) : ¬ blt x x := List.lt_irrefl _
theorem blt_trans (x y z : ByteArray) (h : blt x y) (h2 : blt y z) : blt x z := List.lt_trans h h2
theorem bytes_ext {x y : ByteArray} (h : x.data.toList = y.data.toList) : x = y := ByteArray.ext (Array.toList_inj.1 h)
def Joined (a b r : List ByteArray) : Prop := r.Pairwise blt ∧ ∀ x, x ∈ r ↔ x ∈ a ∨ x ∈ b
theorem Joined.unique {a b r r' : List ByteArray} (h : Joined a b r) (h' : Joined a b r') : r = r' :=
  sorted_unique blt blt_irrefl blt_trans r r' h.1 h'.1 (fun x => (h.2 x).trans (h'.2 x).symm)
theorem Joined.symm {a b r : List ByteArray} (h : Joined a b r) : Joined b a r := ⟨h.1, fun x => (h.2 x).trans or_comm⟩
instance (x y : ByteArray) : Decidable (blt x y) := by unfold blt; exact inferInstance
theorem sz_len (s : ByteArray) : s.size = s.data.toList.length := by rw [Array.length_toList]; rfl
def inB (l : List ByteArray) (x : ByteArray) : Bool := l.any (fun y => decide (y.data.toList = x.data.toList))
theorem inB_iff (l : List ByteArray) (x : ByteArray) : inB l x = true ↔ x ∈ l := by
  unfold inB
  rw [List.any_eq_true]
  constructor
  · rintro ⟨y, hy, h⟩; exact bytes_ext (of_decide_eq_true h) ▸ hy
  · intro h; exact ⟨x, h, decide_eq_true rfl⟩
theorem drop_at (l : List UInt8) (i : Nat) (h : i < l.length) : l.drop i = l[i] :: l.drop (i + 1) := List.drop_eq_getElem_cons h
theorem bt_el (s : ByteArray) (i : Nat) (h : i < s.data.toList.length) : bt s (i : Int) = ((s.data.toList[i]).toNat : Int) := by
  have hs : i < s.size := by rw [sz_len]; exact h
  unfold bt
  rw [Int.toNat_natCast, dif_pos hs]
  rfl
def few (l : List ByteArray) : Prop := l.length ≤ 40 ∧ ∀ x ∈ l, x.size ≤ 100
end Go.Proofs.Ytnjeeedndnfglaa.Strs
end
section
namespace Go.Proofs.Ytnjeeedndnfglaa.Strs
open Go.RowKit Go.Proofs.YtnjeeedndnfglaaW.PrintWords Go.Proofs.YtnjeeedndnfglaaW.PrintLast Go.Proofs.YtnjeeedndnfglaaW.PrintMore Go.Proofs.Ytnjeeedndnfglaa.X
set_option linter.unusedSimpArgs false
set_option linter.unusedVariables false
end Go.Proofs.Ytnjeeedndnfglaa.Strs
end
section
namespace Go.Proofs.Ytnjeeedndnfglaa
open Go.RowKit
set_option linter.unusedSimpArgs false
set_option linter.unusedVariables false
theorem own_none (W : World) (base : Nat) (e : TypeId) (size : Nat) : W.ownsRow base e size (.slice none 0 0) 0 [] := ⟨by simp, .inl ⟨rfl, rfl⟩⟩
theorem own_block_le {w : World} {base n : Nat} {e : TypeId} {size : Nat} {v : Value} {xs : List Value} (h : w.ownsRow base e size v n xs) (k : Nat) (hk : v.ownBlock = some k) : base ≤ k := by
  rcases h.2 with ⟨rfl, _⟩ | ⟨g, cap, cur, rfl, hb, _⟩
  · simp [Value.ownBlock] at hk
  · have : g = k := by simpa [Value.ownBlock] using hk
    omega
section
variable {P : Program} {ops : Array Oper} {rest : List Oper} {o : Oper} {a : Act} {Q : Exit → Act → World → Prop}
theorem append_one {w0 W : World} (base : Nat) (hgd : o.guard = none) (s x : Operand) (t e : TypeId) (z : Value) (size bytes : Nat)
    (ho : o.op = .call { callee := .builtin .append, args := #[s, x], argTypes := #[t, t] })
    (ht : P.underlying t = some (.slice e)) (hinfo : (P.info? e).map (fun i => (i.zero, i.size, i.bytes)) = some (some z, size, bytes)) (hz : z.cells.size = size) (hsz : 0 < size) (hb0 : 0 < bytes)
    (v : Value) (n : Nat) (xs ys : List Value) (hs : a.eval s = v) (hx : a.eval x = .slice (some ⟨W.heap.size, 0, none⟩) 1 1) (hy : ys.length = size) (h1 : ∀ u ∈ ys, u.oneCell' = true)
    (HO : W.ownsRow base e size v n xs) (HB : Below base w0 W) (hbase : base ≤ W.heap.size) (hl : (n + 1) * bytes ≤ 140737488355328)
    (h : ∀ v1 w1, w1.ownsRow base e size v1 (n + 1) (xs ++ ys) → Below base w0 w1 → W.heap.size ≤ w1.heap.size → wpList P ops Q rest (a.put o.dst v1) w1) :
    wpList P ops Q (o :: rest) a (W.alloc (.cells ys.toArray e)) := by
  obtain ⟨i0, hi, hzz⟩ := Option.map_eq_some_iff.1 hinfo
  simp only [Prod.mk.injEq] at hzz
  obtain ⟨hz0, hz1, hz2⟩ := hzz
  have hlen : n + 1 ≤ 140737488355328 := Nat.le_trans (Nat.le_mul_of_pos_right _ hb0) hl
  refine wpList_append_own (W.alloc (.cells ys.toArray e)) hgd s x t ho base e i0 z size bytes ht hi hz0 hz1 hz2 hz hsz v n xs hs (HO.alloc _) ⟨W.heap.size, 0, none⟩ 1 1 ys hx (by omega)
    (fun j u hu => ?_) h1 (by simp only [maxLen]; omega) hl (by simp; omega) ?_
  · have ha : (⟨W.heap.size, 0, none⟩ : Addr).add j = ⟨W.heap.size, j, none⟩ := by unfold Addr.add; split <;> simp_all
    rw [ha, World.cell?_alloc_at _ _ _ _ rfl]
    simpa using hu
  · intro v1 w1 hown hg _
    refine h v1 w1 hown ((HB.alloc hbase _).grown hg (by simp; omega) (own_block_le HO)) ?_
    have := hg.size
    simp at this
    omega
end
end Go.Proofs.Ytnjeeedndnfglaa
end
