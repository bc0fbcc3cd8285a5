/- What the claim SPR leans on: texts joined by bundle.py, a program of ours; the words cut down to what is used. -/
import Derived.Test.YtigimlfelogdlaaGreatDoorBSPR3
import Derived.Test.YtigimlfelogdlaaGreatDoorProg
import Derived.Shelf.Small.Bits
import Derived.Shelf.Utf8.RuneCount
import Derived.Shelf.Strconv.Itoa0
import Derived.Shelf.Strings.Search1
import Derived.Shelf.Strings.Search2
import Derived.Shelf.Strings.Search3
import Derived.Shelf.Strings.Count
import Derived.Shelf.LaysM
import Derived.Shelf.Strings.Shaped
import Derived.Shelf.Sort.Plain
import Derived.Shelf.Strings.Split
import Derived.Shelf.Strings.SplitShaped
import Derived.Shelf.Unicode.Decode
import Derived.Shelf.Strings.RuneCount
import Derived.Shelf.Strings.Explode
import Derived.Shelf.Unicode.DecodeSlow
import Derived.Shelf.Unicode.DecodeAny
import Derived.Shelf.Slices.Turned
import Derived.Shelf.Slices.In.SortNone
import Derived.WalkKit
import Derived.WalkSpells
import Derived.WalkLawsBesides
import Derived.Handy
import Derived.Lib.Hide
import Derived.Deep.QuietTactic
import Derived.BigQuiet
import Derived.KernelRfl
import Derived.Lib.DecodeN
import Derived.Lib.RuneCountTail
section
namespace Go.Proofs
open Go.Shelf
def Tryz.lays143_ren : Go.Shelf.Ren := ⟨fun | 143 => 45 | 219 => 84 | 217 => 136 | 225 => 137 | 224 => 138 | 267 => 139 | 266 => 198 | 314 => 199 | n => n, fun | 9 => 9 | 3 => 3 | 4 => 4 | 5 => 5 | 46 => 252 | 146 => 314 | 51 => 313 | n => n, fun | 1 => 0 | n => n⟩
theorem Tryz.lays143 : Go.Proofs.Lays.n143 Tryz.prog Tryz.lays143_ren := {
  mixed := by kernel_rfl
  f143 := Tryz.func45.trans (congrArg some (by kernel_rfl))
  f217 := Tryz.func136.trans (congrArg some (by kernel_rfl))
  f219 := Tryz.func84.trans (congrArg some (by kernel_rfl))
  f224 := Tryz.func138.trans (congrArg some (by kernel_rfl))
  f225 := Tryz.func137.trans (congrArg some (by kernel_rfl))
  f266 := Tryz.func198.trans (congrArg some (by kernel_rfl))
  f267 := Tryz.func139.trans (congrArg some (by kernel_rfl))
  f314 := Tryz.func199.trans (congrArg some (by kernel_rfl))
  t3 := Tryz.underlying3
  a3 := Tryz.isAgg3
  z3 := Tryz.sizeOf3
  v3 := Tryz.zeroValue3
  t4 := Tryz.underlying4
  a4 := Tryz.isAgg4
  z4 := Tryz.sizeOf4
  v4 := Tryz.zeroValue4
  t5 := Tryz.underlying5
  a5 := Tryz.isAgg5
  z5 := Tryz.sizeOf5
  v5 := Tryz.zeroValue5
  t9 := Tryz.underlying9
  a9 := Tryz.isAgg9
  z9 := Tryz.sizeOf9
  v9 := Tryz.zeroValue9
  t46 := Tryz.underlying252
  a46 := Tryz.isAgg252
  z46 := Tryz.sizeOf252
  v46 := Tryz.zeroValue252
  t51 := Tryz.underlying313
  a51 := Tryz.isAgg313
  z51 := Tryz.sizeOf313
  v51 := Tryz.zeroValue313
  t146 := Tryz.underlying314
  a146 := Tryz.isAgg314
  z146 := Tryz.sizeOf314
  v146 := Tryz.zeroValue314
  g1 := by kernel_rfl }
open Go.RowKit Go.Lib in
theorem Tryz.strings_Index_one (s : ByteArray) (c : UInt8) (w : World) :
    Calls Tryz.prog 45 #[.string s, .string ⟨#[c]⟩] w fun e w' => e = .returned (.int .i64 (Lib.indexByte s.data.toList c)) ∧ w' = w := Any.strings_Index_one Tryz.lays143 s c w
def Tryz.lays138_ren : Go.Shelf.Ren := ⟨fun | 138 => 44 | 195 => 81 | 218 => 83 | 143 => 45 | 219 => 84 | 217 => 136 | 225 => 137 | 224 => 138 | 267 => 139 | 266 => 198 | 314 => 199 | n => n, fun | 9 => 9 | 3 => 3 | 4 => 4 | 5 => 5 | 0 => 0 | 46 => 252 | 146 => 314 | 51 => 313 | n => n, fun | 1 => 0 | n => n⟩
theorem Tryz.lays138 : Go.Proofs.Lays.n138 Tryz.prog Tryz.lays138_ren := {
  mixed := by kernel_rfl
  f138 := Tryz.func44.trans (congrArg some (by kernel_rfl))
  f143 := Tryz.func45.trans (congrArg some (by kernel_rfl))
  f195 := Tryz.func81.trans (congrArg some (by kernel_rfl))
  f217 := Tryz.func136.trans (congrArg some (by kernel_rfl))
  f218 := Tryz.func83.trans (congrArg some (by kernel_rfl))
  f219 := Tryz.func84.trans (congrArg some (by kernel_rfl))
  f224 := Tryz.func138.trans (congrArg some (by kernel_rfl))
  f225 := Tryz.func137.trans (congrArg some (by kernel_rfl))
  f266 := Tryz.func198.trans (congrArg some (by kernel_rfl))
  f267 := Tryz.func139.trans (congrArg some (by kernel_rfl))
  f314 := Tryz.func199.trans (congrArg some (by kernel_rfl))
  t0 := Tryz.underlying0
  a0 := Tryz.isAgg0
  z0 := Tryz.sizeOf0
  v0 := Tryz.zeroValue0
  t3 := Tryz.underlying3
  a3 := Tryz.isAgg3
  z3 := Tryz.sizeOf3
  v3 := Tryz.zeroValue3
  t4 := Tryz.underlying4
  a4 := Tryz.isAgg4
  z4 := Tryz.sizeOf4
  v4 := Tryz.zeroValue4
  t5 := Tryz.underlying5
  a5 := Tryz.isAgg5
  z5 := Tryz.sizeOf5
  v5 := Tryz.zeroValue5
  t9 := Tryz.underlying9
  a9 := Tryz.isAgg9
  z9 := Tryz.sizeOf9
  v9 := Tryz.zeroValue9
  t46 := Tryz.underlying252
  a46 := Tryz.isAgg252
  z46 := Tryz.sizeOf252
  v46 := Tryz.zeroValue252
  t51 := Tryz.underlying313
  a51 := Tryz.isAgg313
  z51 := Tryz.sizeOf313
  v51 := Tryz.zeroValue313
  t146 := Tryz.underlying314
  a146 := Tryz.isAgg314
  z146 := Tryz.sizeOf314
  v146 := Tryz.zeroValue314
  g1 := by kernel_rfl }
open Go.RowKit Go.Lib in
theorem Tryz.strings_Count_one (s : ByteArray) (c : UInt8) (w : World) :
    Calls Tryz.prog 44 #[.string s, .string ⟨#[c]⟩] w fun e w' => e = .returned (.int .i64 (Lib.countByte s.data.toList c)) ∧ w' = w := Any.strings_Count_one Tryz.lays138 s c w
open Go.RowKit Go.Lib in
theorem Tryz.strings_Count (s sub : ByteArray) (m : Int) (w : World) (hs : s.size < 4294967281) (hm : w.cell? ⟨0, 0, none⟩ = some (.int .i64 m)) (h2 : 2 ≤ sub.size) :
    Calls Tryz.prog 44 #[.string s, .string sub] w fun e w' => e = .returned (.int .i64 (Lib.countB s sub)) ∧ w' = w := Any.strings_Count Tryz.lays138 s sub m w hs hm h2
def Tryz.lays221_ren : Go.Shelf.Ren := ⟨fun | 221 => 25 | 268 => 43 | 138 => 44 | 143 => 45 | 195 => 81 | 197 => 82 | 218 => 83 | 219 => 84 | 260 => 135 | 217 => 136 | 225 => 137 | 224 => 138 | 267 => 139 | 266 => 198 | 314 => 199 | n => n, fun | 9 => 9 | 3 => 3 | 31 => 43 | 4 => 4 | 0 => 0 | 105 => 174 | 21 => 21 | 5 => 5 | 46 => 252 | 119 => 309 | 139 => 312 | 138 => 311 | 146 => 314 | 51 => 313 | n => n, fun | 1 => 0 | 3 => 1 | 4 => 2 | n => n⟩
theorem Tryz.lays221 : Go.Proofs.Lays.n221 Tryz.prog Tryz.lays221_ren := {
  mixed := by kernel_rfl
  f138 := Tryz.func44.trans (congrArg some (by kernel_rfl))
  f143 := Tryz.func45.trans (congrArg some (by kernel_rfl))
  f195 := Tryz.func81.trans (congrArg some (by kernel_rfl))
  f197 := Tryz.func82.trans (congrArg some (by kernel_rfl))
  f217 := Tryz.func136.trans (congrArg some (by kernel_rfl))
  f218 := Tryz.func83.trans (congrArg some (by kernel_rfl))
  f219 := Tryz.func84.trans (congrArg some (by kernel_rfl))
  f221 := Tryz.func25.trans (congrArg some (by kernel_rfl))
  f224 := Tryz.func138.trans (congrArg some (by kernel_rfl))
  f225 := Tryz.func137.trans (congrArg some (by kernel_rfl))
  f260 := Tryz.func135.trans (congrArg some (by kernel_rfl))
  f266 := Tryz.func198.trans (congrArg some (by kernel_rfl))
  f267 := Tryz.func139.trans (congrArg some (by kernel_rfl))
  f268 := Tryz.func43.trans (congrArg some (by kernel_rfl))
  f314 := Tryz.func199.trans (congrArg some (by kernel_rfl))
  t0 := Tryz.underlying0
  a0 := Tryz.isAgg0
  z0 := Tryz.sizeOf0
  v0 := Tryz.zeroValue0
  t3 := Tryz.underlying3
  a3 := Tryz.isAgg3
  z3 := Tryz.sizeOf3
  v3 := Tryz.zeroValue3
  t4 := Tryz.underlying4
  a4 := Tryz.isAgg4
  z4 := Tryz.sizeOf4
  v4 := Tryz.zeroValue4
  t5 := Tryz.underlying5
  a5 := Tryz.isAgg5
  z5 := Tryz.sizeOf5
  v5 := Tryz.zeroValue5
  t9 := Tryz.underlying9
  a9 := Tryz.isAgg9
  z9 := Tryz.sizeOf9
  v9 := Tryz.zeroValue9
  t21 := Tryz.underlying21
  a21 := Tryz.isAgg21
  z21 := Tryz.sizeOf21
  v21 := Tryz.zeroValue21
  t31 := Tryz.underlying43
  a31 := Tryz.isAgg43
  z31 := Tryz.sizeOf43
  v31 := Tryz.zeroValue43
  t46 := Tryz.underlying252
  a46 := Tryz.isAgg252
  z46 := Tryz.sizeOf252
  v46 := Tryz.zeroValue252
  t51 := Tryz.underlying313
  a51 := Tryz.isAgg313
  z51 := Tryz.sizeOf313
  v51 := Tryz.zeroValue313
  t105 := Tryz.underlying174
  a105 := Tryz.isAgg174
  z105 := Tryz.sizeOf174
  v105 := Tryz.zeroValue174
  t119 := Tryz.underlying309
  a119 := Tryz.isAgg309
  z119 := Tryz.sizeOf309
  t138 := Tryz.underlying311
  a138 := Tryz.isAgg311
  z138 := Tryz.sizeOf311
  v138 := Tryz.zeroValue311
  t139 := Tryz.underlying312
  a139 := Tryz.isAgg312
  z139 := Tryz.sizeOf312
  v139 := Tryz.zeroValue312
  t146 := Tryz.underlying314
  a146 := Tryz.isAgg314
  z146 := Tryz.sizeOf314
  v146 := Tryz.zeroValue314
  g1 := by kernel_rfl
  g3 := by kernel_rfl
  g4 := by kernel_rfl }
def Tryz.lays146_ren : Go.Shelf.Ren := ⟨fun | 146 => 11 | 221 => 25 | 268 => 43 | 138 => 44 | 143 => 45 | 195 => 81 | 197 => 82 | 218 => 83 | 219 => 84 | 260 => 135 | 217 => 136 | 225 => 137 | 224 => 138 | 267 => 139 | 266 => 198 | 314 => 199 | n => n, fun | 9 => 9 | 31 => 43 | 3 => 3 | 4 => 4 | 0 => 0 | 105 => 174 | 21 => 21 | 5 => 5 | 46 => 252 | 119 => 309 | 139 => 312 | 138 => 311 | 146 => 314 | 51 => 313 | n => n, fun | 1 => 0 | 3 => 1 | 4 => 2 | n => n⟩
theorem Tryz.lays146 : Go.Proofs.Lays.n146 Tryz.prog Tryz.lays146_ren := {
  mixed := by kernel_rfl
  f138 := Tryz.func44.trans (congrArg some (by kernel_rfl))
  f143 := Tryz.func45.trans (congrArg some (by kernel_rfl))
  f146 := Tryz.func11.trans (congrArg some (by kernel_rfl))
  f195 := Tryz.func81.trans (congrArg some (by kernel_rfl))
  f197 := Tryz.func82.trans (congrArg some (by kernel_rfl))
  f217 := Tryz.func136.trans (congrArg some (by kernel_rfl))
  f218 := Tryz.func83.trans (congrArg some (by kernel_rfl))
  f219 := Tryz.func84.trans (congrArg some (by kernel_rfl))
  f221 := Tryz.func25.trans (congrArg some (by kernel_rfl))
  f224 := Tryz.func138.trans (congrArg some (by kernel_rfl))
  f225 := Tryz.func137.trans (congrArg some (by kernel_rfl))
  f260 := Tryz.func135.trans (congrArg some (by kernel_rfl))
  f266 := Tryz.func198.trans (congrArg some (by kernel_rfl))
  f267 := Tryz.func139.trans (congrArg some (by kernel_rfl))
  f268 := Tryz.func43.trans (congrArg some (by kernel_rfl))
  f314 := Tryz.func199.trans (congrArg some (by kernel_rfl))
  t0 := Tryz.underlying0
  a0 := Tryz.isAgg0
  z0 := Tryz.sizeOf0
  v0 := Tryz.zeroValue0
  t3 := Tryz.underlying3
  a3 := Tryz.isAgg3
  z3 := Tryz.sizeOf3
  v3 := Tryz.zeroValue3
  t4 := Tryz.underlying4
  a4 := Tryz.isAgg4
  z4 := Tryz.sizeOf4
  v4 := Tryz.zeroValue4
  t5 := Tryz.underlying5
  a5 := Tryz.isAgg5
  z5 := Tryz.sizeOf5
  v5 := Tryz.zeroValue5
  t9 := Tryz.underlying9
  a9 := Tryz.isAgg9
  z9 := Tryz.sizeOf9
  v9 := Tryz.zeroValue9
  t21 := Tryz.underlying21
  a21 := Tryz.isAgg21
  z21 := Tryz.sizeOf21
  v21 := Tryz.zeroValue21
  t31 := Tryz.underlying43
  a31 := Tryz.isAgg43
  z31 := Tryz.sizeOf43
  v31 := Tryz.zeroValue43
  t46 := Tryz.underlying252
  a46 := Tryz.isAgg252
  z46 := Tryz.sizeOf252
  v46 := Tryz.zeroValue252
  t51 := Tryz.underlying313
  a51 := Tryz.isAgg313
  z51 := Tryz.sizeOf313
  v51 := Tryz.zeroValue313
  t105 := Tryz.underlying174
  a105 := Tryz.isAgg174
  z105 := Tryz.sizeOf174
  v105 := Tryz.zeroValue174
  t119 := Tryz.underlying309
  a119 := Tryz.isAgg309
  z119 := Tryz.sizeOf309
  t138 := Tryz.underlying311
  a138 := Tryz.isAgg311
  z138 := Tryz.sizeOf311
  v138 := Tryz.zeroValue311
  t139 := Tryz.underlying312
  a139 := Tryz.isAgg312
  z139 := Tryz.sizeOf312
  v139 := Tryz.zeroValue312
  t146 := Tryz.underlying314
  a146 := Tryz.isAgg314
  z146 := Tryz.sizeOf314
  v146 := Tryz.zeroValue314
  g1 := by kernel_rfl
  g3 := by kernel_rfl
  g4 := by kernel_rfl }
open Go.RowKit Go.Lib in
theorem Tryz.strings_Split (s sep : ByteArray) (m : Int) (w : World) (hs : s.size < 4294967281) (hm : w.cell? ⟨0, 0, none⟩ = some (.int .i64 m)) (h1 : 1 ≤ sep.size) :
    Calls Tryz.prog 11 #[.string s, .string sep] w fun e w' =>
      e = .returned (.slice (some ⟨w.heap.size, 0, none⟩) (Lib.countB s sep + 1) (Lib.countB s sep + 1)) ∧ w' = w.alloc (.cells ((Lib.splitB sep 0 (Lib.countB s sep) s).map Value.string).toArray 9) := Any.strings_Split Tryz.lays146 (by kernel_rfl) s sep m w hs hm h1
end Go.Proofs
end
section
namespace Go.Proofs.YtigimlfelogdlaaGreatDoor.V
open Go.Vm Go.RowKit
set_option linter.unusedVariables false
set_option linter.unusedSimpArgs false
def pieces (c : UInt8) : List UInt8 → List UInt8 × List (List UInt8)
  | [] => ([], [])
  | b :: l => bif b == c then ([], (pieces c l).1 :: (pieces c l).2) else (b :: (pieces c l).1, (pieces c l).2)
def splitL (c : UInt8) (l : List UInt8) : List (List UInt8) := (pieces c l).1 :: (pieces c l).2
def ofL (l : List UInt8) : ByteArray := ⟨l.toArray⟩
theorem ofL_toList (s : ByteArray) : ofL s.data.toList = s := rfl
def strings_Split.f (s sep : ByteArray) : Option (List ByteArray) := match sep.data.toList with
  | [c] => bif Nat.ble s.size 4000000 then some ((splitL c s.data.toList).map ofL) else none
  | _ => none
def strings_Count.f (s sep : ByteArray) : Option Int := match sep.data.toList with
  | [c] => some (s.data.toList.count c : Nat)
  | _ => none
def strings_Contains.f (s sep : ByteArray) : Option Bool := match sep.data.toList with
  | [c] => some (s.data.toList.contains c)
  | _ => none
def strings_Split.spec (k : Nat) : Go.Vm.Spec := .pu [.val .str, .val .str] (.sl 9 .str) strings_Split.f
def strings_Count.spec (k : Nat) : Go.Vm.Spec := .pu [.val .str, .val .str] .i64 strings_Count.f
def strings_Contains.spec (k : Nat) : Go.Vm.Spec := .pu [.val .str, .val .str] .bool strings_Contains.f

theorem pieces_step (c b : UInt8) (l : List UInt8) : pieces c (b :: l) = bif b == c then ([], (pieces c l).1 :: (pieces c l).2) else (b :: (pieces c l).1, (pieces c l).2) := rfl
theorem splitK_cons_ne (c b : UInt8) (l : List UInt8) (h : b ≠ c) (k : Nat) {x : List UInt8} {r : List (List UInt8)} (hr : Lib.splitK [c] 0 k l = x :: r) : Lib.splitK [c] 0 k (b :: l) = (b :: x) :: r := by
  cases k with
  | zero =>
    simp only [Lib.splitK] at hr ⊢
    injection hr with h1 h2
    rw [h1, h2]
  | succ k =>
    have hp : ([c] : List UInt8).isPrefixOf (b :: l) = false := by simp [List.isPrefixOf, Ne.symm h]
    have hix : Lib.index (b :: l) [c] = if Lib.index l [c] == -1 then -1 else Lib.index l [c] + 1 := by rw [Lib.index, hp]; simp
    unfold Lib.splitK at hr ⊢
    by_cases hm : Lib.index l [c] = -1
    · rw [if_pos (beq_iff_eq.2 hm)] at hr
      rw [if_pos (beq_iff_eq.2 (by rw [hix, if_pos (beq_iff_eq.2 hm)]))]
      injection hr with h1 h2
      rw [h1, h2]
    · have hge := Lib.index_ge l [c]
      obtain ⟨j, hj⟩ : ∃ j : Nat, Lib.index l [c] = j := ⟨(Lib.index l [c]).toNat, by omega⟩
      have hix' : Lib.index (b :: l) [c] = ((j + 1 : Nat) : Int) := by rw [hix, if_neg (fun e => hm (beq_iff_eq.1 e)), hj]; omega
      rw [hj, if_neg (by simp)] at hr
      rw [hix', if_neg (by rw [beq_iff_eq]; omega)]
      injection hr with h1 h2
      simp only [Int.toNat_natCast, Nat.add_zero] at h1 h2 ⊢
      rw [List.take_succ_cons, h1, show j + 1 + [c].length = (j + [c].length) + 1 by omega, List.drop_succ_cons, h2]
theorem splitK_one (c : UInt8) : ∀ l : List UInt8, Lib.splitK [c] 0 (Lib.count l [c]) l = splitL c l
  | [] => by rw [Lib.count_one]; first | done | rfl
  | b :: l => by
    have ih := splitK_one c l
    by_cases h : b = c
    · subst h
      rw [Lib.count_cons_eq, Nat.add_comm, Lib.splitK]
      have hix : Lib.index (b :: l) [b] = ((0 : Nat) : Int) := by rw [Lib.index]; simp [List.isPrefixOf]
      rw [hix, if_neg (by simp)]
      show [] :: Lib.splitK [b] 0 (Lib.count l [b]) l = splitL b (b :: l)
      rw [ih]
      unfold splitL
      rw [pieces_step, show (b == b) = true by simp]
      rfl
    · rw [Lib.count_cons_ne b c l h]
      rw [splitK_cons_ne c b l h _ ih]
      unfold splitL
      rw [pieces_step, show (b == c) = false by simpa using h]
      rfl
theorem splitB_one (c : UInt8) (s : ByteArray) : Lib.splitB ⟨#[c]⟩ 0 (Lib.countB s ⟨#[c]⟩) s = (splitL c s.data.toList).map ofL := by
  have h := Lib.splitB_data ⟨#[c]⟩ 0 (Lib.countB s ⟨#[c]⟩) s
  rw [show (⟨#[c]⟩ : ByteArray).data.toList = [c] from rfl, show Lib.countB s ⟨#[c]⟩ = Lib.count s.data.toList [c] from rfl, splitK_one] at h
  rw [show Lib.countB s ⟨#[c]⟩ = Lib.count s.data.toList [c] from rfl, ← h, List.map_map]
  exact (List.map_id' _).symm
theorem one_sep {sep : ByteArray} {c : UInt8} (h : sep.data.toList = [c]) : sep = ⟨#[c]⟩ := by
  rw [← ofL_toList sep, h]; rfl
theorem below_self (w : World) : Below w.heap.size w w := Below.refl _ _
theorem strs_RelL {w : World} {S : Nat → Prop} : ∀ l : List ByteArray, RelL (RelC w S .str) l (l.map Value.string)
  | [] => rfl
  | x :: l => ⟨[.string x], l.map Value.string, rfl, rfl, strs_RelL l⟩
set_option maxRecDepth 100000 in
set_option maxHeartbeats 4000000 in
theorem split_calls (s : ByteArray) (c : UInt8) (w : World) (hs : s.size ≤ 4000000) : Calls Tryz.prog 11 #[.string s, .string ⟨#[c]⟩] w fun e w' =>
    e = .returned (.slice (some ⟨w.heap.size, 0, none⟩) ((splitL c s.data.toList).map ofL).length ((splitL c s.data.toList).map ofL).length) ∧ w' = w.alloc (.cells (((splitL c s.data.toList).map ofL).map Value.string).toArray 9) := by
  have hle := Lib.countB_le ⟨#[c]⟩ (Nat.le_refl 1) s.size s (Nat.le_refl _)
  have hlen := Lib.splitB_all ⟨#[c]⟩ (Nat.le_refl 1) 0 _ s rfl
  have hcall := Any.strings_genSplit_core Tryz.lays221 (by kernel_rfl) s ⟨#[c]⟩ 0 (-1) (Lib.countB s ⟨#[c]⟩ + 1) w (by omega) (Nat.le_refl 1) (Nat.zero_le _)
    (fun x cs hx => (Tryz.strings_Index_one x c _).mono fun e w' ⟨h1, h2⟩ => ⟨by rw [h1, ← Lib.index_one]; first | done | rfl, h2⟩)
    ((Tryz.strings_Count_one s c w).mono fun e w' ⟨h1, h2⟩ => ⟨by rw [h1]; congr 2; rw [show Lib.countB s ⟨#[c]⟩ = Lib.count s.data.toList [c] from rfl, Lib.count_one]; first | done | rfl, h2⟩)
    (by decide) (by decide) (by rw [if_pos (by decide)]; omega)
  rw [Nat.add_sub_cancel, hlen] at hcall
  have e2 : Lib.cellsOf (Lib.splitB ⟨#[c]⟩ 0 (Lib.countB s ⟨#[c]⟩) s) (Lib.countB s ⟨#[c]⟩ + 1) = ((Lib.splitB ⟨#[c]⟩ 0 (Lib.countB s ⟨#[c]⟩) s).map Value.string).toArray := by rw [← hlen]; exact Lib.cellsOf_full _
  rw [e2, ← hlen, splitB_one] at hcall
  generalize (splitL c s.data.toList).map ofL = ps at hcall ⊢
  have HC := Lib.hid hcall
  clear hcall e2 hlen hle
  go_enter Tryz.func11, Tryz.ntmps11
  go_wp2_with (first | (go_at_call 25; refine HC.out.mono ?_; rintro e w' ⟨rfl, hw⟩; rw [hw]))
  go_ret
  exact ⟨rfl, rfl⟩
theorem strings_Split.ok (k : Nat) : SpecOk Tryz.prog 11 (strings_Split.spec k) := by
  refine ⟨Tryz.call11, fun w S S1 xs vs y h01 hlt hargs hy => ?_⟩
  obtain ⟨s, sep, _⟩ := xs
  obtain ⟨v0, vs, rfl, h0, v1, vs', rfl, h1, hn⟩ := hargs
  have hn' : vs' = [] := hn
  subst hn'
  obtain rfl : v0 = .string s := List.singleton_inj.1 h0
  obtain rfl : v1 = .string sep := List.singleton_inj.1 h1
  have hy' : strings_Split.f s sep = some y := hy
  unfold strings_Split.f at hy'
  split at hy'
  · rename_i c hc
    obtain rfl := one_sep hc
    by_cases hb : s.size ≤ 4000000
    · rw [show Nat.ble s.size 4000000 = true from Nat.ble_eq_true_of_le hb] at hy'
      obtain rfl := Option.some.inj hy'
      refine (split_calls s c w hb).mono ?_
      rintro e w' ⟨rfl, rfl⟩
      have hz : (w.alloc (.cells (((splitL c s.data.toList).map ofL).map Value.string).toArray 9)).heap[w.heap.size]? = some (.cells (((splitL c s.data.toList).map ofL).map Value.string).toArray 9) := heap_alloc_new _ _
      refine ⟨_, rfl, ⟨some ⟨w.heap.size, 0, none⟩, _, rfl, Nat.le_refl _, fun _ => ⟨⟨w.heap.size, 0, none⟩, ((splitL c s.data.toList).map ofL).map Value.string, rfl, .inr ⟨Nat.le_refl _, (Array.getElem?_eq_some_iff.1 hz).1⟩, by simp [Ty.size], ?_, strs_RelL _⟩⟩, (Below.refl _ _).alloc (Nat.le_refl _) _⟩
      intro i u hu
      have e2 : ((⟨w.heap.size, 0, none⟩ : Addr).add i) = ⟨w.heap.size, i, none⟩ := by unfold Addr.add; split <;> simp_all
      rw [e2, cell_of_row _ _ _ _ _ _ hz]
      simpa using hu
    · rw [show Nat.ble s.size 4000000 = false from Bool.eq_false_iff.2 fun e => hb (Nat.le_of_ble_eq_true e)] at hy'
      cases hy'
  · cases hy'
theorem strings_Count.ok (k : Nat) : SpecOk Tryz.prog 44 (strings_Count.spec k) := by
  refine ⟨Tryz.call44, fun w S S1 xs vs y h01 hlt hargs hy => ?_⟩
  obtain ⟨s, sep, _⟩ := xs
  obtain ⟨v0, vs, rfl, h0, v1, vs', rfl, h1, hn⟩ := hargs
  have hn' : vs' = [] := hn
  subst hn'
  obtain rfl : v0 = .string s := List.singleton_inj.1 h0
  obtain rfl : v1 = .string sep := List.singleton_inj.1 h1
  have hy' : strings_Count.f s sep = some y := hy
  unfold strings_Count.f at hy'
  split at hy'
  · rename_i c hc
    obtain rfl := one_sep hc
    obtain rfl := Option.some.inj hy'
    refine (Tryz.strings_Count_one s c w).mono ?_
    rintro e w' ⟨rfl, rfl⟩
    exact ⟨_, rfl, rfl, Below.refl _ _⟩
  · cases hy'
end Go.Proofs.YtigimlfelogdlaaGreatDoor.V
end
section
namespace Go.Proofs.YtigimlfelogdlaaGreatDoor.V
open Go.Vm Go.RowKit
set_option linter.unusedVariables false
set_option linter.unusedSimpArgs false
def takeGo : List (Option (Int ⊕ ByteArray)) → List ByteArray → List Bool → Option (Bool × List (Int ⊕ ByteArray))
  | _, _, [] => some (true, [])
  | [], _, _ :: _ => none
  | p :: ps, ws, true :: ks => match p with
    | some (.inl n) => match takeGo ps ws.tail ks with
      | some z => some (z.1, .inl n :: z.2)
      | none => none
    | _ => some (false, [])
  | _ :: ps, ws, false :: ks => match ws with
    | w :: ws => match takeGo ps ws ks with
      | some z => some (z.1, .inr w :: z.2)
      | none => none
    | [] => none
def script_take.f (a : List (Option (Int ⊕ ByteArray))) (wd : List ByteArray) (ks : List Bool) : Option (Bool × List (Int ⊕ ByteArray)) :=
  bif Nat.ble ks.length 100 then bif Nat.beq a.length ks.length then takeGo a wd ks else some (false, []) else none
def script_take.spec (k : Nat) : Go.Vm.Spec := .tk 20 9 3 9 48 69 script_take.f
theorem take_store {w : World} {S : Nat → Prop} {p : Addr × Bool} (hp : PlaceOk w S p) (v : Value) :
    ∃ v0, w.cell? p.1 = some v0 ∧ w.frozen? p.1 = false ∧ SameOn S w (w.setCell p.1 v) ∧ ∀ q, PlaceOk w S q → PlaceOk (w.setCell p.1 v) S q := by
  obtain ⟨⟨b, o, s⟩, k⟩ := p
  obtain ⟨h0, hS, cs, tid, hh, ho⟩ := hp
  simp only at h0 hS hh ho
  subst h0
  refine ⟨cs[o], ?_, ?_, fun i hi => Below.heap_setCell _ _ _ _ (by rintro rfl; exact hS hi), fun q hq => ?_⟩
  · rw [cell_of_row w b o cs tid (0, 0) hh]; exact Array.getElem?_eq_getElem ho
  · unfold World.frozen?
    simp [hh]
  · obtain ⟨g1, g2, cs', tid', g3, g4⟩ := hq
    by_cases e : q.1.block = b
    · rw [e] at g3
      rw [hh] at g3
      simp at g3
      obtain ⟨rfl, rfl⟩ := g3
      exact ⟨g1, g2, _, _, by rw [e]; exact heap_setCell_same w b o cs tid v hh, by simpa using g4⟩
    · exact ⟨g1, g2, cs', tid', by rw [Below.heap_setCell _ _ _ _ e]; exact g3, g4⟩
theorem ta_int (w : World) (p : Value) : (Instr.typeAssert (.iface 48 p) 20 48 true).run Tryz.prog w = .ok (.tuple #[p, .bool true]) w := by
  simp [Instr.typeAssert, run_underlying Tryz.underlying48]
theorem ta_intNo (w : World) (p : Value) : (Instr.typeAssert (.iface 69 p) 20 48 true).run Tryz.prog w = .ok (.tuple #[.pointer none, .bool false]) w := by
  simp [Instr.typeAssert, run_underlying Tryz.underlying48, Tryz.zeroValue48]
theorem ta_str (w : World) (p : Value) : (Instr.typeAssert (.iface 69 p) 20 69 true).run Tryz.prog w = .ok (.tuple #[p, .bool true]) w := by
  simp [Instr.typeAssert, run_underlying Tryz.underlying69]
theorem ta_num (w : World) (x : Option (Int ⊕ ByteArray)) : (Instr.typeAssert (anyV 3 9 x) 20 3 true).run Tryz.prog w = .ok (match x with
    | some (.inl n) => .tuple #[.int .i64 n, .bool true]
    | _ => .tuple #[.int .i64 0, .bool false]) w := by
  match x with
  | none => simp [Instr.typeAssert, anyV, run_underlying Tryz.underlying3, Tryz.zeroValue3]
  | some (.inl n) => simp [Instr.typeAssert, anyV, run_underlying Tryz.underlying3]
  | some (.inr s) => simp [Instr.typeAssert, anyV, run_underlying Tryz.underlying3, Tryz.zeroValue3]
def numOf : Option (Int ⊕ ByteArray) → Int × Bool
  | some (.inl n) => (n, true)
  | _ => (0, false)
set_option maxRecDepth 100000 in
set_option maxHeartbeats 4000000 in
theorem Part_is (w : World) (x : Option (Int ⊕ ByteArray)) : Calls Tryz.prog 26 #[anyV 3 9 x] w fun e w' => e = .returned (.tuple #[.int .i64 (numOf x).1, .bool (numOf x).2]) ∧ w' = w := by
  have hT : ∀ W, (Instr.typeAssert (anyV 3 9 x) 20 3 true).run Tryz.prog W = .ok (.tuple #[.int .i64 (numOf x).1, .bool (numOf x).2]) W := fun W => by
    rw [ta_num W x]
    match x with
    | none => rfl
    | some (.inl n) => rfl
    | some (.inr s) => rfl
  generalize numOf x = z at hT ⊢
  generalize anyV 3 9 x = u at hT ⊢
  go_enter Tryz.func26, Tryz.ntmps26
  go_wp2
  go_ret2
  exact ⟨rfl, rfl⟩
theorem takeGo_num {x : Option (Int ⊕ ByteArray)} {a : List (Option (Int ⊕ ByteArray))} {wd : List ByteArray} {ks : List Bool} {z : Bool × List (Int ⊕ ByteArray)} (h : takeGo (x :: a) wd (true :: ks) = some z) :
    ((numOf x).2 = false ∧ z = (false, [])) ∨ (∃ n z', numOf x = (n, true) ∧ takeGo a wd.tail ks = some z' ∧ z = (z'.1, .inl n :: z'.2)) := by
  match x with
  | none => exact .inl ⟨rfl, (Option.some.inj h).symm⟩
  | some (.inr s) => exact .inl ⟨rfl, (Option.some.inj h).symm⟩
  | some (.inl n) =>
    simp only [takeGo] at h
    split at h
    · rename_i z' hz
      exact .inr ⟨n, z', rfl, hz, (Option.some.inj h).symm⟩
    · cases h
theorem takeGo_str {x : Option (Int ⊕ ByteArray)} {a : List (Option (Int ⊕ ByteArray))} {wd : List ByteArray} {ks : List Bool} {z : Bool × List (Int ⊕ ByteArray)} (h : takeGo (x :: a) wd (false :: ks) = some z) :
    ∃ s wd' z', wd = s :: wd' ∧ takeGo a wd' ks = some z' ∧ z = (z'.1, .inr s :: z'.2) := by
  cases wd with
  | nil => cases h
  | cons s wd' =>
    simp only [takeGo] at h
    split at h
    · rename_i z' hz
      exact ⟨s, wd', z', rfl, hz, (Option.some.inj h).symm⟩
    · cases h
theorem takeGo_fits : ∀ (ks : List Bool) (a : List (Option (Int ⊕ ByteArray))) (wd : List ByteArray) (z : Bool × List (Int ⊕ ByteArray)), takeGo a wd ks = some z → Fits ks z.2
  | [], a, wd, z, h => by
    have h : some (true, []) = some z := by
      rw [← h]
      cases a <;> rfl
    injection h with h
    subst h
    trivial
  | _ :: _, [], wd, z, h => by cases h
  | true :: ks, x :: a, wd, z, h => by
    rcases takeGo_num h with ⟨_, e⟩ | ⟨n, z', _, h', e⟩
    · rw [e]; trivial
    · rw [e]; exact takeGo_fits ks a _ z' h'
  | false :: ks, x :: a, wd, z, h => by
    obtain ⟨s, wd', z', _, h', e⟩ := takeGo_str h
    rw [e]; exact takeGo_fits ks a _ z' h'
theorem take_fits (a : List (Option (Int ⊕ ByteArray))) (wd : List ByteArray) (ks : List Bool) (y : Bool × List (Int ⊕ ByteArray)) (h : script_take.f a wd ks = some y) : Fits ks y.2 := by
  unfold script_take.f at h
  cases hb : Nat.ble ks.length 100 with
  | false => rw [hb] at h; cases h
  | true =>
    rw [hb] at h
    cases hc : Nat.beq a.length ks.length with
    | true => rw [hc] at h; exact takeGo_fits ks a wd y h
    | false =>
      rw [hc] at h
      have h : some (false, []) = some y := h
      injection h with h
      subst h
      show Fits ks []
      cases ks with
      | nil => trivial
      | cons b ks => cases b <;> trivial
def OneAt {α : Type} (w : World) (S : Nat → Prop) (f : α → Value) (xs : List α) (v : Value) : Prop :=
  ∃ A c, v = .slice A xs.length c ∧ xs.length ≤ c ∧ ∀ j x, xs[j]? = some x → ∃ ad, A = some ad ∧ S ad.block ∧ w.cell? (ad.add j) = some (f x)
theorem OneAt.of {w : World} {S : Nat → Prop} {e : TypeId} {t : Ty} {f : t.den → Value} (ht : t.size = 1) (hf : ∀ x cs, RelC w S t x cs → cs = [f x]) {xs : List t.den} {v : Value} (h : RelD w S (.sl e t) xs v) : OneAt w S f xs v := by
  obtain ⟨A, c, rfl, hc, hi⟩ : ∃ A c, v = .slice A xs.length c ∧ xs.length ≤ c ∧ (0 < xs.length → ∃ ad inner, A = some ad ∧ S ad.block ∧ inner.length = xs.length * t.size ∧ Go.Vm.CellsAt w ad inner ∧ RelL (RelC w S t) xs inner) := by
    obtain ⟨A, c, e, h1, h2⟩ := h
    exact ⟨A, c, List.singleton_inj.1 e, h1, h2⟩
  refine ⟨A, c, rfl, hc, fun j x hj => ?_⟩
  obtain ⟨ad, inner, rfl, hS, hl, hcs, hr⟩ := hi (Nat.lt_of_le_of_lt (Nat.zero_le j) (List.getElem?_eq_some_iff.1 hj).1)
  obtain ⟨a, c', b, e, ha, hy, _⟩ := hr.at_ (n := 1) (fun y c h => by rw [hf y c h]; rfl) hj
  refine ⟨ad, rfl, hS, hcs j _ ?_⟩
  rw [e, hf _ _ hy, List.append_assoc, List.getElem?_append_right (by omega), ha]
  simp
theorem cell_on {w w' : World} {S : Nat → Prop} (h : SameOn S w w') {ad : Addr} (hS : S ad.block) {j : Nat} : w'.cell? (ad.add j) = w.cell? (ad.add j) :=
  World.cell?_of_block (by rw [Addr.add]; split <;> exact h _ hS)
theorem SameOn.trans' {S : Nat → Prop} {w w1 w2 : World} (h : SameOn S w w1) (k : SameOn S w1 w2) : SameOn S w w2 := fun b hb => (k b hb).trans (h b hb)
theorem tyRows : tabB Tryz.prog [(3, .int .i64), (9, .str)] = true := by kernel_rfl
theorem ty_int (T : Tab) : TyOk Tryz.prog T 3 (.int .i64) :=
  have h := tabOk_of tyRows 3 (.int .i64) (by rfl)
  ⟨h.good, h.pos, h.info, h.und, h.dep, h.small⟩
theorem ty_str (T : Tab) : TyOk Tryz.prog T 9 .str :=
  have h := tabOk_of tyRows 9 .str (by rfl)
  ⟨h.good, h.pos, h.info, h.und, h.dep, h.small⟩
set_option maxRecDepth 100000 in
set_option maxHeartbeats 4000000 in
theorem script_take.ok (k : Nat) : SpecOk Tryz.prog 12 (script_take.spec k) := by
  refine ⟨Tryz.call12, ty_int, ty_str, take_fits, fun w S a wd l v0 v1 g y hS ha hw hg hl hp hf => ?_⟩
  obtain ⟨A0, c0, rfl, hc0, hA⟩ := OneAt.of (t := .any 3 9) (f := anyV 3 9) rfl (fun _ _ h => h) ha
  obtain ⟨A1, c1, rfl, hc1, hW⟩ := OneAt.of (t := .str) (f := fun s : ByteArray => Value.string s) rfl (fun _ _ h => h) hw
  unfold script_take.f at hf
  have hP : ∀ j p, l[j]? = some p → w.cell? ⟨g, j, none⟩ = some (ifaceOf 48 69 p) := fun j p hj => by
    have := hl j (ifaceOf 48 69 p) (by rw [List.getElem?_map, hj]; rfl)
    rwa [show (⟨g, 0, none⟩ : Addr).add j = ⟨g, j, none⟩ by unfold Addr.add; split <;> simp_all] at this
  rw [List.length_map] at hf
  have h100 : l.length ≤ 100 := by
    apply Classical.byContradiction
    intro h
    rw [show Nat.ble l.length 100 = false from Bool.eq_false_iff.2 fun e => h (Nat.le_of_ble_eq_true e)] at hf
    cases hf
  rw [show Nat.ble l.length 100 = true from Nat.ble_eq_true_of_le h100] at hf
  by_cases hlen : a.length = l.length
  · rw [show Nat.beq a.length l.length = true from by rw [hlen]; exact Nat.beq_refl _] at hf
    have HA := Lib.hid hA
    have HW := Lib.hid hW
    have HP := Lib.hid hP
    have HF : Hid (takeGo a wd (l.map (·.2)) = some y) := Lib.hid hf
    have HK := Lib.hid hp
    have HG := Lib.hid hg
    clear hA hW hP hf hp hg hl ha hw hS
    go_enter Tryz.func12, Tryz.ntmps12
    go_wp2
    go_loopw [20] (fun i wr => ∃ (j : Nat) (z : Bool × List (Int ⊕ ByteArray)), j ≤ l.length ∧ i = .int .i64 j ∧ Hid (SameOn S w wr) ∧ Hid (∀ q, q ∈ l → PlaceOk wr S q) ∧ Hid (takeGo (a.drop j) (wd.drop j) ((l.drop j).map (·.2)) = some z) ∧ Hid (y.1 = z.1 ∧ ∀ w', Stored Tryz.prog 3 9 (l.drop j) z.2 wr w' → Stored Tryz.prog 3 9 l y.2 w w')) (fun i _ => l.length - (intOf i).toNat)
    case atStart => exact ⟨0, y, by omega, rfl, Lib.hid (fun _ _ => rfl), Lib.hid HK.out, Lib.hid HF.out, Lib.hid ⟨rfl, fun _ h => h⟩⟩
    case round =>
      obtain ⟨j, z, hj, rfl, hS, hK, hz, hY⟩ := hrel
      by_cases hlt : j < l.length
      · obtain ⟨p, hpj⟩ : ∃ p, l[j]? = some p := ⟨l[j], List.getElem?_eq_getElem hlt⟩
        obtain ⟨x, hxj⟩ : ∃ x, a[j]? = some x := ⟨a[j]'(by omega), List.getElem?_eq_getElem (by omega)⟩
        obtain ⟨ad, rfl, hSa, hxc⟩ := HA.out j x hxj
        rw [← cell_on hS.out hSa] at hxc
        have hpc := HP.out j p hpj
        rw [← show wr.cell? ⟨g, j, none⟩ = w.cell? ⟨g, j, none⟩ from World.cell?_of_block (hS.out _ HG.out)] at hpc
        have hpm := List.mem_of_getElem? hpj
        have hja : j < a.length := by omega
        have hz' := hz.out
        rw [List.drop_eq_getElem_cons hja, List.drop_eq_getElem_cons hlt, List.map_cons] at hz'
        rw [show a[j] = x from (List.getElem?_eq_some_iff.1 hxj).2, show l[j] = p from (List.getElem?_eq_some_iff.1 hpj).2] at hz'
        have hY' := hY.out
        rw [List.drop_eq_getElem_cons hlt, show l[j] = p from (List.getElem?_eq_some_iff.1 hpj).2] at hY'
        have HX := Lib.hid hxj
        have HJ := Lib.hid hpj
        have HM := Lib.hid hpm
        have HY := Lib.hid hY'
        clear hxj hpj hpm hY'
        obtain ⟨pa, pk⟩ := p
        cases pk with
        | true =>
          have hpc' : wr.cell? ⟨g, j, none⟩ = some (.iface 48 (.pointer (some pa))) := hpc
          clear hpc
          have hta := fun W => ta_int W (.pointer (some pa))
          obtain ⟨m, b, hmb⟩ : ∃ m b, numOf x = (m, b) := ⟨_, _, rfl⟩
          have hcall := Part_is wr x
          rw [hmb] at hcall
          have HC := Lib.hid hcall
          have HZ := Lib.hid (takeGo_num hz')
          rw [hmb] at HZ
          obtain ⟨v0, hvc, hvf, hS1, hK1⟩ := take_store (hK.out _ HM.out) (.int .i64 m)
          simp only at hvc hvf
          have HS1 := Lib.hid (SameOn.trans' hS.out hS1)
          have HK1 : Hid (∀ q, q ∈ l → PlaceOk (wr.setCell pa (.int .i64 m)) S q) := Lib.hid (fun q hq => hK1 q (hK.out q hq))
          have HST : Hid ((Instr.storeAt 3 (.pointer (some pa)) (.int .i64 m)).run Tryz.prog wr = .ok () (wr.setCell pa (.int .i64 m))) := Lib.hid (by go_simp)
          clear hz' hcall hmb hS1 hK1
          cases b with
          | false =>
            go_wp2_with (first | (go_at_call 26; refine HC.out.mono ?_; rintro e w' ⟨rfl, hw⟩; rw [hw]))
            go_ret
            rcases HZ.out with ⟨_, e⟩ | ⟨n, z', e, _⟩
            · subst e
              exact ⟨by rw [HY.out.1]; rfl, HY.out.2 _ rfl⟩
            · cases e
          | true =>
            go_wp2_with (first | (go_at_call 26; refine HC.out.mono ?_; rintro e w' ⟨rfl, hw⟩; rw [hw]))
            rcases HZ.out with ⟨e, _⟩ | ⟨n, z', e, hz2, e2⟩
            · cases e
            · injection e with e _
              subst e
              refine ⟨⟨j + 1, z', by omega, by congr 1, HS1, HK1, Lib.hid ?_, Lib.hid ⟨by rw [HY.out.1, e2], fun w' hw => HY.out.2 w' ?_⟩⟩, by first | omega | (simp [RowKit.intOf]; omega) | (simp; omega) | (show l.length - Int.toNat ((j : Int) + 1) < l.length - Int.toNat (j : Int); omega)⟩
              · rw [List.tail_drop] at hz2
                exact hz2
              · rw [e2]
                exact ⟨_, HST.out, hw⟩
        | false =>
          have hpc' : wr.cell? ⟨g, j, none⟩ = some (.iface 69 (.pointer (some pa))) := hpc
          clear hpc
          have hta := fun W => ta_str W (.pointer (some pa))
          have hto := fun W => ta_intNo W (.pointer (some pa))
          obtain ⟨s, wd', z', hwd, hz2, e2⟩ := takeGo_str hz'
          clear hz'
          have hjw : j < wd.length := by
            apply Classical.byContradiction
            intro h
            rw [List.drop_eq_nil_of_le (by omega)] at hwd
            cases hwd
          rw [List.drop_eq_getElem_cons hjw] at hwd
          injection hwd with hw1 hw2
          obtain ⟨ad1, rfl, hSw, hwc⟩ := HW.out j s (List.getElem?_eq_some_iff.2 ⟨hjw, hw1⟩)
          rw [← cell_on hS.out hSw] at hwc
          obtain ⟨v0, hvc, hvf, hS1, hK1⟩ := take_store (hK.out _ HM.out) (.string s)
          simp only at hvc hvf
          have HS1 := Lib.hid (SameOn.trans' hS.out hS1)
          have HK1 : Hid (∀ q, q ∈ l → PlaceOk (wr.setCell pa (.string s)) S q) := Lib.hid (fun q hq => hK1 q (hK.out q hq))
          have HST : Hid ((Instr.storeAt 9 (.pointer (some pa)) (.string s)).run Tryz.prog wr = .ok () (wr.setCell pa (.string s))) := Lib.hid (by go_simp)
          have HZ := Lib.hid hz2
          have HE := Lib.hid e2
          have HW2 := Lib.hid hw2
          clear hS1 hK1 hz2 e2 hw1 hw2
          go_wp2
          refine ⟨⟨j + 1, z', by omega, by congr 1, HS1, HK1, Lib.hid ?_, Lib.hid ⟨by rw [HY.out.1, HE.out], fun w' hw => HY.out.2 w' ?_⟩⟩, by first | omega | (simp [RowKit.intOf]; omega) | (simp; omega) | (show l.length - Int.toNat ((j : Int) + 1) < l.length - Int.toNat (j : Int); omega)⟩
          · rw [HW2.out]
            exact HZ.out
          · rw [HE.out]
            exact ⟨_, HST.out, hw⟩
      · go_wp2
        go_ret
        obtain rfl : j = l.length := by omega
        have hz' := hz.out
        rw [List.drop_length, List.map_nil] at hz'
        have hz' : some (true, []) = some z := by
          rw [← hz']
          unfold takeGo
          rfl
        injection hz' with hz'
        subst hz'
        exact ⟨by rw [hY.out.1]; rfl, hY.out.2 _ (by rw [List.drop_length]; rfl)⟩
  · rw [show Nat.beq a.length l.length = false from Bool.eq_false_iff.2 fun h => hlen (Nat.eq_of_beq_eq_true h)] at hf
    have hf' : (false, []) = y := Option.some.inj hf
    subst hf'
    clear hA hW hP hf hp hg hl ha hw hS
    have hne : ¬ ((a.length : Int) = (l.length : Int)) := by omega
    go_enter Tryz.func12, Tryz.ntmps12
    go_wp2
    go_ret
    exact ⟨rfl, by cases l <;> rfl⟩
end Go.Proofs.YtigimlfelogdlaaGreatDoor.V
end
section
set_option linter.unusedVariables false
namespace Go.Proofs.YtigimlfelogdlaaGreatDoor.V
open Go.Vm
abbrev Ty_cluster_Config : Ty := (.st (.pair Ty.i64 (.pair Ty.i64 (.pair Ty.i64 (.pair Ty.i64 Ty.i64)))))
abbrev Ty_cluster_Step : Ty := (.st (.pair Ty.i64 (.pair Ty.i64 (.pair Ty.i64 (.pair Ty.i64 (.pair Ty.i64 (.pair Ty.i64 (.pair (.int .u8) (.pair .str .str)))))))))
abbrev Ty_api_Stamp : Ty := (.st (.pair Ty.i64 Ty.i64))
abbrev Ty_check_Seen : Ty := (.st (.pair .str (.pair Ty_api_Stamp .str)))
abbrev Ty_api_Write : Ty := (.st (.pair .str .str))
abbrev Ty_check_Trip : Ty := (.st (.pair Ty_api_Stamp (.pair Ty_api_Stamp (.pair (.sl 168 Ty_check_Seen) (.pair (.sl 152 Ty_api_Write) Ty.i64)))))
def rows : List (Nat × Ty) := [(3, Ty.i64), (4, .bool), (5, (.int .u8)), (9, .str), (20, (.any 3 9)), (21, (.int .i32)), (24, Ty_cluster_Config), (25, (.sl 40 Ty_cluster_Step)), (28, (.sl 30 Ty.i64)), (29, (.sl 111 Ty_check_Trip)), (30, Ty.i64), (33, Ty_cluster_Config), (34, (.sl 63 Ty_cluster_Step)), (40, Ty_cluster_Step), (43, (.sl 9 .str)), (46, (.sl 20 (.any 3 9))), (59, (.sl 3 Ty.i64)), (63, Ty_cluster_Step), (105, Ty_api_Stamp), (107, Ty_api_Stamp), (108, (.sl 168 Ty_check_Seen)), (109, (.sl 152 Ty_api_Write)), (111, Ty_check_Trip), (152, Ty_api_Write), (168, Ty_check_Seen), (48, .pt 3), (69, .pt 9)]
def T : Tab := tabOf rows
theorem rowsOk : tabB Tryz.prog rows = true := by kernel_rfl
theorem tabOk : TabOk Tryz.prog T := tabOk_of rowsOk
theorem mix : Tryz.prog.follows .mixedOrders = true := by kernel_rfl
def G_0 : Nat → Gam := fun _ _ => none
theorem ok_0 : GOk Tryz.prog G_0 := GOk.none
def script_usual.cuts : List (Nat × List CK) := []
abbrev script_usual.ps : List PK := []
abbrev script_usual.r : Ty := Ty_cluster_Config
noncomputable def script_usual.raw (k : Nat) : Option Ty_cluster_Config.den := runF Alg.std G_0 T Tryz.f10 script_usual.cuts script_usual.ps script_usual.r k
noncomputable def script_usual (k : Nat) : Option Ty_cluster_Config.den := sealed script_usual.raw k
theorem script_usual_raw (k : Nat) : script_usual k = script_usual.raw k := by unfold script_usual; rw [sealed_eq]
noncomputable def G_script_usual (k : Nat) : Gam := ins 10 (.pu script_usual.ps script_usual.r (script_usual k)) (G_0 k)
theorem ok_script_usual : GOk Tryz.prog G_script_usual := ok_0.ins fun k => by rw [show script_usual k = script_usual.raw k from congrFun (sealed_eq script_usual.raw) k]; exact runF_ok tabOk ok_0 mix Tryz.func10 Tryz.call10 script_usual.cuts script_usual.ps script_usual.r (by rw [Tryz.ntmps10]; decide) k
noncomputable def G_strings_Split (k : Nat) : Gam := ins 11 (strings_Split.spec k) (G_script_usual k)
theorem ok_strings_Split : GOk Tryz.prog G_strings_Split := ok_script_usual.ins (strings_Split.ok)
def script_number.s3 : List CK := [.tmp 4 Ty.i64, .tmp 5 Ty.i64, .ptr 9 9 .iter, .box 9 .iter []]
def script_number.s7 : List CK := [.tmp 4 Ty.i64, .tmp 5 Ty.i64, .tmp 7 (.int .i32), .ptr 9 9 .iter, .box 9 .iter []]
def script_number.cuts : List (Nat × List CK) := [(3, script_number.s3), (7, script_number.s7)]
abbrev script_number.ps : List PK := [.val .str]
abbrev script_number.r : Ty := (.tup (.pair Ty.i64 .bool))
noncomputable def script_number.raw (k : Nat) (a0 : ByteArray) : Option (Int × Bool) := runF Alg.std G_strings_Split T Tryz.f27 script_number.cuts script_number.ps script_number.r k a0
noncomputable def script_number (k : Nat) (a0 : ByteArray) : Option (Int × Bool) := sealed script_number.raw k a0
theorem script_number_raw (k : Nat) (a0 : ByteArray) : script_number k a0 = script_number.raw k a0 := by unfold script_number; rw [sealed_eq]
noncomputable def script_number.c3 (k : Nat) (x4 : Int) (x5 : Int) (b9 : ByteArray × Nat) : Option (Int × Bool) := runC Alg.std G_strings_Split T Tryz.f27 script_number.cuts script_number.r 3 script_number.s3 k (x4, x5, (), b9, ())
noncomputable def script_number.c7 (k : Nat) (x4 : Int) (x5 : Int) (x7 : Int) (b9 : ByteArray × Nat) : Option (Int × Bool) := runC Alg.std G_strings_Split T Tryz.f27 script_number.cuts script_number.r 7 script_number.s7 k (x4, x5, x7, (), b9, ())
noncomputable def G_script_number (k : Nat) : Gam := ins 27 (.pu script_number.ps script_number.r (script_number k)) (G_strings_Split k)
theorem ok_script_number : GOk Tryz.prog G_script_number := ok_strings_Split.ins fun k => by rw [show script_number k = script_number.raw k from congrFun (sealed_eq script_number.raw) k]; exact runF_ok tabOk ok_strings_Split mix Tryz.func27 Tryz.call27 script_number.cuts script_number.ps script_number.r (by rw [Tryz.ntmps27]; decide) k
def script_Parts.s3 : List CK := [.own 3 20 (.any 3 9), .tmp 9 (.sl 9 .str), .tmp 10 Ty.i64, .tmp 11 Ty.i64]
def script_Parts.cuts : List (Nat × List CK) := [(3, script_Parts.s3)]
abbrev script_Parts.ps : List PK := [.val .str]
abbrev script_Parts.r : Ty := (.sl 20 (.any 3 9))
noncomputable def script_Parts.raw (k : Nat) (a0 : ByteArray) : Option (List (Option (Int ⊕ ByteArray))) := runF Alg.std G_script_number T Tryz.f13 script_Parts.cuts script_Parts.ps script_Parts.r k a0
noncomputable def script_Parts (k : Nat) (a0 : ByteArray) : Option (List (Option (Int ⊕ ByteArray))) := sealed script_Parts.raw k a0
theorem script_Parts_raw (k : Nat) (a0 : ByteArray) : script_Parts k a0 = script_Parts.raw k a0 := by unfold script_Parts; rw [sealed_eq]
noncomputable def script_Parts.c3 (k : Nat) (x3 : List (Option (Int ⊕ ByteArray))) (x9 : List ByteArray) (x10 : Int) (x11 : Int) : Option (List (Option (Int ⊕ ByteArray))) := runC Alg.std G_script_number T Tryz.f13 script_Parts.cuts script_Parts.r 3 script_Parts.s3 k (x3, x9, x10, x11, ())
noncomputable def G_script_Parts (k : Nat) : Gam := ins 13 (.pu script_Parts.ps script_Parts.r (script_Parts k)) (G_script_number k)
theorem ok_script_Parts : GOk Tryz.prog G_script_Parts := ok_script_number.ins fun k => by rw [show script_Parts k = script_Parts.raw k from congrFun (sealed_eq script_Parts.raw) k]; exact runF_ok tabOk ok_script_number mix Tryz.func13 Tryz.call13 script_Parts.cuts script_Parts.ps script_Parts.r (by rw [Tryz.ntmps13]; decide) k
noncomputable def G_script_take (k : Nat) : Gam := ins 12 (script_take.spec k) (G_script_Parts k)
theorem ok_script_take : GOk Tryz.prog G_script_take := ok_script_Parts.ins (script_take.ok)
def cluster_within.cuts : List (Nat × List CK) := []
abbrev cluster_within.ps : List PK := [.val Ty.i64, .val Ty.i64, .val Ty.i64]
abbrev cluster_within.r : Ty := .bool
noncomputable def cluster_within.raw (k : Nat) (a0 : Int) (a1 : Int) (a2 : Int) : Option Bool := runF Alg.std G_script_take T Tryz.f28 cluster_within.cuts cluster_within.ps cluster_within.r k a0 a1 a2
noncomputable def cluster_within (k : Nat) (a0 : Int) (a1 : Int) (a2 : Int) : Option Bool := sealed cluster_within.raw k a0 a1 a2
theorem cluster_within_raw (k : Nat) (a0 : Int) (a1 : Int) (a2 : Int) : cluster_within k a0 a1 a2 = cluster_within.raw k a0 a1 a2 := by unfold cluster_within; rw [sealed_eq]
noncomputable def G_cluster_within (k : Nat) : Gam := ins 28 (.pu cluster_within.ps cluster_within.r (cluster_within k)) (G_script_take k)
theorem ok_cluster_within : GOk Tryz.prog G_cluster_within := ok_script_take.ins fun k => by rw [show cluster_within k = cluster_within.raw k from congrFun (sealed_eq cluster_within.raw) k]; exact runF_ok tabOk ok_script_take mix Tryz.func28 Tryz.call28 cluster_within.cuts cluster_within.ps cluster_within.r (by rw [Tryz.ntmps28]; decide) k
def cluster_Right.cuts : List (Nat × List CK) := []
abbrev cluster_Right.ps : List PK := [.val Ty_cluster_Config]
abbrev cluster_Right.r : Ty := .bool
noncomputable def cluster_Right.raw (k : Nat) (a0 : Ty_cluster_Config.den) : Option Bool := runF Alg.std G_cluster_within T Tryz.f14 cluster_Right.cuts cluster_Right.ps cluster_Right.r k a0
noncomputable def cluster_Right (k : Nat) (a0 : Ty_cluster_Config.den) : Option Bool := sealed cluster_Right.raw k a0
theorem cluster_Right_raw (k : Nat) (a0 : Ty_cluster_Config.den) : cluster_Right k a0 = cluster_Right.raw k a0 := by unfold cluster_Right; rw [sealed_eq]
noncomputable def G_cluster_Right (k : Nat) : Gam := ins 14 (.pu cluster_Right.ps cluster_Right.r (cluster_Right k)) (G_cluster_within k)
theorem ok_cluster_Right : GOk Tryz.prog G_cluster_Right := ok_cluster_within.ins fun k => by rw [show cluster_Right k = cluster_Right.raw k from congrFun (sealed_eq cluster_Right.raw) k]; exact runF_ok tabOk ok_cluster_within mix Tryz.func14 Tryz.call14 cluster_Right.cuts cluster_Right.ps cluster_Right.r (by rw [Tryz.ntmps14]; decide) k
def script_Rune.s3 : List CK := [.tmp 0 Ty.i64, .tmp 3 Ty.i64, .ptr 6 6 .iter, .box 6 .iter []]
def script_Rune.cuts : List (Nat × List CK) := [(3, script_Rune.s3)]
abbrev script_Rune.ps : List PK := [.val Ty.i64]
abbrev script_Rune.r : Ty := (.int .i32)
noncomputable def script_Rune.raw (k : Nat) (a0 : Int) : Option Int := runF Alg.std G_cluster_Right T Tryz.f9 script_Rune.cuts script_Rune.ps script_Rune.r k a0
noncomputable def script_Rune (k : Nat) (a0 : Int) : Option Int := sealed script_Rune.raw k a0
theorem script_Rune_raw (k : Nat) (a0 : Int) : script_Rune k a0 = script_Rune.raw k a0 := by unfold script_Rune; rw [sealed_eq]
noncomputable def script_Rune.c3 (k : Nat) (x0 : Int) (x3 : Int) (b6 : ByteArray × Nat) : Option Int := runC Alg.std G_cluster_Right T Tryz.f9 script_Rune.cuts script_Rune.r 3 script_Rune.s3 k (x0, x3, (), b6, ())
noncomputable def G_script_Rune (k : Nat) : Gam := ins 9 (.pu script_Rune.ps script_Rune.r (script_Rune k)) (G_cluster_Right k)
theorem ok_script_Rune : GOk Tryz.prog G_script_Rune := ok_cluster_Right.ins fun k => by rw [show script_Rune k = script_Rune.raw k from congrFun (sealed_eq script_Rune.raw) k]; exact runF_ok tabOk ok_cluster_Right mix Tryz.func9 Tryz.call9 script_Rune.cuts script_Rune.ps script_Rune.r (by rw [Tryz.ntmps9]; decide) k
def script_verb.s2 : List CK := [.tmp 0 (.int .i32), .tmp 3 Ty.i64]
def script_verb.cuts : List (Nat × List CK) := [(2, script_verb.s2)]
abbrev script_verb.ps : List PK := [.val (.int .i32)]
abbrev script_verb.r : Ty := Ty.i64
noncomputable def script_verb.raw (k : Nat) (a0 : Int) : Option Int := runF Alg.std G_script_Rune T Tryz.f29 script_verb.cuts script_verb.ps script_verb.r k a0
noncomputable def script_verb (k : Nat) (a0 : Int) : Option Int := sealed script_verb.raw k a0
theorem script_verb_raw (k : Nat) (a0 : Int) : script_verb k a0 = script_verb.raw k a0 := by unfold script_verb; rw [sealed_eq]
noncomputable def script_verb.c2 (k : Nat) (x0 : Int) (x3 : Int) : Option Int := runC Alg.std G_script_Rune T Tryz.f29 script_verb.cuts script_verb.r 2 script_verb.s2 k (x0, x3, ())
noncomputable def G_script_verb (k : Nat) : Gam := ins 29 (.pu script_verb.ps script_verb.r (script_verb k)) (G_script_Rune k)
theorem ok_script_verb : GOk Tryz.prog G_script_verb := ok_script_Rune.ins fun k => by rw [show script_verb k = script_verb.raw k from congrFun (sealed_eq script_verb.raw) k]; exact runF_ok tabOk ok_script_Rune mix Tryz.func29 Tryz.call29 script_verb.cuts script_verb.ps script_verb.r (by rw [Tryz.ntmps29]; decide) k
def script_step.s6 : List CK := [.ptr 2 2 Ty_cluster_Step, .ptr 4 4 Ty_cluster_Step, .tmp 5 (.sl 9 .str), .tmp 6 (.sl 20 (.any 3 9)), .tmp 7 Ty.i64, .ptr 20 20 .iter, .box 2 Ty_cluster_Step [], .box 4 Ty_cluster_Step [], .box 20 .iter []]
def script_step.s12 : List CK := [.ptr 2 2 Ty_cluster_Step, .ptr 4 4 Ty_cluster_Step, .tmp 5 (.sl 9 .str), .tmp 6 (.sl 20 (.any 3 9)), .box 2 Ty_cluster_Step [], .box 4 Ty_cluster_Step []]
def script_step.s18 : List CK := [.ptr 2 2 Ty_cluster_Step, .ptr 4 4 Ty_cluster_Step, .tmp 5 (.sl 9 .str), .tmp 6 (.sl 20 (.any 3 9)), .box 2 Ty_cluster_Step [], .box 4 Ty_cluster_Step []]
def script_step.s19 : List CK := [.ptr 2 2 Ty_cluster_Step, .ptr 4 4 Ty_cluster_Step, .tmp 5 (.sl 9 .str), .tmp 6 (.sl 20 (.any 3 9)), .ptr 10 10 Ty.i64, .tmp 40 Ty.i64, .box 2 Ty_cluster_Step [], .box 4 Ty_cluster_Step [], .box 10 Ty.i64 []]
def script_step.s35 : List CK := [.ptr 2 2 Ty_cluster_Step, .ptr 4 4 Ty_cluster_Step, .tmp 11 .bool, .box 2 Ty_cluster_Step [], .box 4 Ty_cluster_Step []]
def script_step.s27 : List CK := [.ptr 2 2 Ty_cluster_Step, .ptr 4 4 Ty_cluster_Step, .tmp 5 (.sl 9 .str), .tmp 6 (.sl 20 (.any 3 9)), .box 2 Ty_cluster_Step [], .box 4 Ty_cluster_Step []]
def script_step.s28 : List CK := [.ptr 2 2 Ty_cluster_Step, .ptr 4 4 Ty_cluster_Step, .tmp 5 (.sl 9 .str), .tmp 6 (.sl 20 (.any 3 9)), .ptr 10 10 Ty.i64, .tmp 40 Ty.i64, .box 2 Ty_cluster_Step [], .box 4 Ty_cluster_Step [], .box 10 Ty.i64 []]
def script_step.s31 : List CK := [.ptr 2 2 Ty_cluster_Step, .ptr 4 4 Ty_cluster_Step, .tmp 5 (.sl 9 .str), .tmp 6 (.sl 20 (.any 3 9)), .box 2 Ty_cluster_Step [], .box 4 Ty_cluster_Step []]
def script_step.s32 : List CK := [.ptr 2 2 Ty_cluster_Step, .ptr 4 4 Ty_cluster_Step, .tmp 5 (.sl 9 .str), .tmp 6 (.sl 20 (.any 3 9)), .ptr 10 10 Ty.i64, .tmp 40 Ty.i64, .box 2 Ty_cluster_Step [], .box 4 Ty_cluster_Step [], .box 10 Ty.i64 []]
def script_step.cuts : List (Nat × List CK) := [(6, script_step.s6), (12, script_step.s12), (18, script_step.s18), (19, script_step.s19), (35, script_step.s35), (27, script_step.s27), (28, script_step.s28), (31, script_step.s31), (32, script_step.s32)]
abbrev script_step.ps : List PK := [.val .str]
abbrev script_step.r : Ty := (.tup (.pair Ty_cluster_Step .bool))
noncomputable def script_step.raw (k : Nat) (a0 : ByteArray) : Option (Ty_cluster_Step.den × Bool) := runF Alg.std G_script_verb T Tryz.f15 script_step.cuts script_step.ps script_step.r k a0
noncomputable def script_step (k : Nat) (a0 : ByteArray) : Option (Ty_cluster_Step.den × Bool) := sealed script_step.raw k a0
theorem script_step_raw (k : Nat) (a0 : ByteArray) : script_step k a0 = script_step.raw k a0 := by unfold script_step; rw [sealed_eq]
noncomputable def script_step.c6 (k : Nat) (x5 : List ByteArray) (x6 : List (Option (Int ⊕ ByteArray))) (x7 : Int) (b2 : Ty_cluster_Step.den) (b4 : Ty_cluster_Step.den) (b20 : ByteArray × Nat) : Option (Ty_cluster_Step.den × Bool) := runC Alg.std G_script_verb T Tryz.f15 script_step.cuts script_step.r 6 script_step.s6 k ((), (), x5, x6, x7, (), b2, b4, b20, ())
noncomputable def script_step.c12 (k : Nat) (x5 : List ByteArray) (x6 : List (Option (Int ⊕ ByteArray))) (b2 : Ty_cluster_Step.den) (b4 : Ty_cluster_Step.den) : Option (Ty_cluster_Step.den × Bool) := runC Alg.std G_script_verb T Tryz.f15 script_step.cuts script_step.r 12 script_step.s12 k ((), (), x5, x6, b2, b4, ())
noncomputable def script_step.c18 (k : Nat) (x5 : List ByteArray) (x6 : List (Option (Int ⊕ ByteArray))) (b2 : Ty_cluster_Step.den) (b4 : Ty_cluster_Step.den) : Option (Ty_cluster_Step.den × Bool) := runC Alg.std G_script_verb T Tryz.f15 script_step.cuts script_step.r 18 script_step.s18 k ((), (), x5, x6, b2, b4, ())
noncomputable def script_step.c19 (k : Nat) (x5 : List ByteArray) (x6 : List (Option (Int ⊕ ByteArray))) (x40 : Int) (b2 : Ty_cluster_Step.den) (b4 : Ty_cluster_Step.den) (b10 : Int) : Option (Ty_cluster_Step.den × Bool) := runC Alg.std G_script_verb T Tryz.f15 script_step.cuts script_step.r 19 script_step.s19 k ((), (), x5, x6, (), x40, b2, b4, b10, ())
noncomputable def script_step.c35 (k : Nat) (x11 : Bool) (b2 : Ty_cluster_Step.den) (b4 : Ty_cluster_Step.den) : Option (Ty_cluster_Step.den × Bool) := runC Alg.std G_script_verb T Tryz.f15 script_step.cuts script_step.r 35 script_step.s35 k ((), (), x11, b2, b4, ())
noncomputable def script_step.c27 (k : Nat) (x5 : List ByteArray) (x6 : List (Option (Int ⊕ ByteArray))) (b2 : Ty_cluster_Step.den) (b4 : Ty_cluster_Step.den) : Option (Ty_cluster_Step.den × Bool) := runC Alg.std G_script_verb T Tryz.f15 script_step.cuts script_step.r 27 script_step.s27 k ((), (), x5, x6, b2, b4, ())
noncomputable def script_step.c28 (k : Nat) (x5 : List ByteArray) (x6 : List (Option (Int ⊕ ByteArray))) (x40 : Int) (b2 : Ty_cluster_Step.den) (b4 : Ty_cluster_Step.den) (b10 : Int) : Option (Ty_cluster_Step.den × Bool) := runC Alg.std G_script_verb T Tryz.f15 script_step.cuts script_step.r 28 script_step.s28 k ((), (), x5, x6, (), x40, b2, b4, b10, ())
noncomputable def script_step.c31 (k : Nat) (x5 : List ByteArray) (x6 : List (Option (Int ⊕ ByteArray))) (b2 : Ty_cluster_Step.den) (b4 : Ty_cluster_Step.den) : Option (Ty_cluster_Step.den × Bool) := runC Alg.std G_script_verb T Tryz.f15 script_step.cuts script_step.r 31 script_step.s31 k ((), (), x5, x6, b2, b4, ())
noncomputable def script_step.c32 (k : Nat) (x5 : List ByteArray) (x6 : List (Option (Int ⊕ ByteArray))) (x40 : Int) (b2 : Ty_cluster_Step.den) (b4 : Ty_cluster_Step.den) (b10 : Int) : Option (Ty_cluster_Step.den × Bool) := runC Alg.std G_script_verb T Tryz.f15 script_step.cuts script_step.r 32 script_step.s32 k ((), (), x5, x6, (), x40, b2, b4, b10, ())
noncomputable def G_script_step (k : Nat) : Gam := ins 15 (.pu script_step.ps script_step.r (script_step k)) (G_script_verb k)
theorem ok_script_step : GOk Tryz.prog G_script_step := ok_script_verb.ins fun k => by rw [show script_step k = script_step.raw k from congrFun (sealed_eq script_step.raw) k]; exact runF_ok tabOk ok_script_verb mix Tryz.func15 Tryz.call15 script_step.cuts script_step.ps script_step.r (by rw [Tryz.ntmps15]; decide) k
def script_Parse.s8 : List CK := [.ptr 2 2 Ty_cluster_Config, .tmp 5 (.sl 9 .str), .ptr 6 6 Ty_cluster_Config, .tmp 7 Ty.i64, .box 2 Ty_cluster_Config [], .box 6 Ty_cluster_Config []]
def script_Parse.s10 : List CK := [.ptr 2 2 Ty_cluster_Config, .ptr 6 6 Ty_cluster_Config, .tmp 7 Ty.i64, .own 8 40 Ty_cluster_Step, .tmp 43 (.sl 9 .str), .tmp 44 Ty.i64, .tmp 45 Ty.i64, .box 2 Ty_cluster_Config [], .box 6 Ty_cluster_Config []]
def script_Parse.cuts : List (Nat × List CK) := [(8, script_Parse.s8), (10, script_Parse.s10)]
abbrev script_Parse.ps : List PK := [.val .str]
abbrev script_Parse.r : Ty := (.tup (.pair Ty_cluster_Config (.pair (.sl 40 Ty_cluster_Step) Ty.i64)))
noncomputable def script_Parse.raw (k : Nat) (a0 : ByteArray) : Option (Ty_cluster_Config.den × (List Ty_cluster_Step.den) × Int) := runF Alg.std G_script_step T Tryz.f5 script_Parse.cuts script_Parse.ps script_Parse.r k a0
noncomputable def script_Parse (k : Nat) (a0 : ByteArray) : Option (Ty_cluster_Config.den × (List Ty_cluster_Step.den) × Int) := sealed script_Parse.raw k a0
theorem script_Parse_raw (k : Nat) (a0 : ByteArray) : script_Parse k a0 = script_Parse.raw k a0 := by unfold script_Parse; rw [sealed_eq]
noncomputable def script_Parse.c8 (k : Nat) (x5 : List ByteArray) (x7 : Int) (b2 : Ty_cluster_Config.den) (b6 : Ty_cluster_Config.den) : Option (Ty_cluster_Config.den × (List Ty_cluster_Step.den) × Int) := runC Alg.std G_script_step T Tryz.f5 script_Parse.cuts script_Parse.r 8 script_Parse.s8 k ((), x5, (), x7, b2, b6, ())
noncomputable def script_Parse.c10 (k : Nat) (x7 : Int) (x8 : List Ty_cluster_Step.den) (x43 : List ByteArray) (x44 : Int) (x45 : Int) (b2 : Ty_cluster_Config.den) (b6 : Ty_cluster_Config.den) : Option (Ty_cluster_Config.den × (List Ty_cluster_Step.den) × Int) := runC Alg.std G_script_step T Tryz.f5 script_Parse.cuts script_Parse.r 10 script_Parse.s10 k ((), (), x7, x8, x43, x44, x45, b2, b6, ())
noncomputable def G_script_Parse (k : Nat) : Gam := ins 5 (.pu script_Parse.ps script_Parse.r (script_Parse k)) (G_script_step k)
theorem ok_script_Parse : GOk Tryz.prog G_script_Parse := ok_script_step.ins fun k => by rw [show script_Parse k = script_Parse.raw k from congrFun (sealed_eq script_Parse.raw) k]; exact runF_ok tabOk ok_script_step mix Tryz.func5 Tryz.call5 script_Parse.cuts script_Parse.ps script_Parse.r (by rw [Tryz.ntmps5]; decide) k
end Go.Proofs.YtigimlfelogdlaaGreatDoor.V
end
section
set_option maxHeartbeats 4000000
set_option maxRecDepth 100000
namespace Go.Proofs.YtigimlfelogdlaaGreatDoor.V
open Go Go.Vm
theorem script_usual_eq (k) : script_usual k  = (some (1, (1, (1, (65536, 256))))) := (script_usual_raw k ).trans (by kernel_rfl)
theorem script_number_eq (k) (a0) : script_number k a0 = (script_number.c3 k 0 0 (a0, 0)) := (script_number_raw k a0).trans (by kernel_rfl)
theorem script_number.c3_eq (k) (x4) (x5) (b9) : script_number.c3 (k + 1) x4 x5 b9 = (bif (decide (b9.2 < b9.1.size)) then (bif (decide (((Utf8.decode b9.1 b9.2).1 : Int) < 48)) then (some (0, false)) else (bif (decide (((Utf8.decode b9.1 b9.2).1 : Int) > 57)) then (some (0, false)) else (script_number.c7 k x4 x5 ((Utf8.decode b9.1 b9.2).1 : Int) (b9.1, (b9.2 + (Utf8.decode b9.1 b9.2).2))))) else (some (x4, (decide (x5 > 0))))) := by kernel_rfl
theorem script_number.c7_eq (k) (x4) (x5) (x7) (b9) : script_number.c7 (k + 1) x4 x5 x7 b9 = (bif (decide ((IntKind.wrap IntKind.i64 (x5 + 1)) > 9)) then (some (0, false)) else (script_number.c3 k (IntKind.wrap IntKind.i64 ((IntKind.wrap IntKind.i64 (10 * x4)) + (IntKind.wrap IntKind.i64 (IntKind.wrap IntKind.i32 (x7 - 48))))) (IntKind.wrap IntKind.i64 (x5 + 1)) b9)) := by kernel_rfl
theorem script_Parts_eq (k) (a0) : script_Parts k a0 = ((strings_Split.f a0 (⟨#[32]⟩ : ByteArray)).bind fun r0 => (script_Parts.c3 k [] r0 (r0.length : Int) 0)) := (script_Parts_raw k a0).trans (by kernel_rfl)
theorem script_Parts.c3_eq (k) (x3) (x9) (x10) (x11) : script_Parts.c3 (k + 1) x3 x9 x10 x11 = (bif (decide (x11 < x10)) then (bif (inI x11 x9.length) then ((script_number k (x9.getD (Int.toNat x11) (⟨#[]⟩ : ByteArray))).bind fun r0 => (bif r0.2 then (bif (decide ((x3.length + 1) < 4294967296)) then (script_Parts.c3 k (x3 ++ [(some (Sum.inl r0.1))]) x9 x10 (IntKind.wrap IntKind.i64 (x11 + 1))) else none) else (bif (decide ((x3.length + 1) < 4294967296)) then (script_Parts.c3 k (x3 ++ [(some (Sum.inr (x9.getD (Int.toNat x11) (⟨#[]⟩ : ByteArray))))]) x9 x10 (IntKind.wrap IntKind.i64 (x11 + 1))) else none))) else none) else (some x3)) := by kernel_rfl
theorem cluster_within_eq (k) (a0) (a1) (a2) : cluster_within k a0 a1 a2 = (bif (decide (a0 ≥ a1)) then (some (decide (a0 ≤ a2))) else (some false)) := (cluster_within_raw k a0 a1 a2).trans (by kernel_rfl)
theorem cluster_Right_eq (k) (a0) : cluster_Right k a0 = ((cluster_within k a0.1 1 3).bind fun r0 => (bif r0 then ((cluster_within k a0.2.1 1 4).bind fun r1 => (bif r1 then ((cluster_within k a0.2.2.1 1 4).bind fun r2 => (bif r2 then ((cluster_within k a0.2.2.2.1 0 1048576).bind fun r3 => (bif r3 then ((cluster_within k a0.2.2.2.2 1 256).bind fun r4 => (some r4)) else (some false))) else (some false))) else (some false))) else (some false))) := (cluster_Right_raw k a0).trans (by kernel_rfl)
theorem script_Rune_eq (k) (a0) : script_Rune k a0 = (script_Rune.c3 k a0 0 ((⟨#[98, 114, 119, 99, 97, 104, 100, 108, 102, 115, 116, 107, 226, 134, 146, 226, 156, 151, 226, 135, 137, 226, 128, 160, 226, 134, 145]⟩ : ByteArray), 0)) := (script_Rune_raw k a0).trans (by kernel_rfl)
theorem script_Rune.c3_eq (k) (x0) (x3) (b6) : script_Rune.c3 (k + 1) x0 x3 b6 = (bif (decide (b6.2 < b6.1.size)) then (bif ((IntKind.wrap IntKind.i64 (x3 + 1)) == x0) then (some ((Utf8.decode b6.1 b6.2).1 : Int)) else (script_Rune.c3 k x0 (IntKind.wrap IntKind.i64 (x3 + 1)) (b6.1, (b6.2 + (Utf8.decode b6.1 b6.2).2)))) else (some 0)) := by kernel_rfl
theorem script_verb_eq (k) (a0) : script_verb k a0 = (script_verb.c2 k a0 1) := (script_verb_raw k a0).trans (by kernel_rfl)
theorem script_verb.c2_eq (k) (x0) (x3) : script_verb.c2 (k + 1) x0 x3 = (bif (decide (x3 ≤ 17)) then ((script_Rune k x3).bind fun r0 => (bif (r0 == x0) then (some x3) else (script_verb.c2 k x0 (IntKind.wrap IntKind.i64 (x3 + 1))))) else (some 0)) := by kernel_rfl
theorem script_step_eq (k) (a0) : script_step k a0 = ((strings_Split.f a0 (⟨#[32]⟩ : ByteArray)).bind fun r0 => ((script_Parts k a0).bind fun r1 => (bif (((decide (0 ≤ 1)) && (decide (1 ≤ (r1.length : Int)))) && (decide ((r1.length : Int) ≤ (r1.length : Int)))) then (bif (inI 0 r0.length) then (script_step.c6 k r0 (sliceL r1 1 (r1.length : Int)) 0 (Ty.zero Ty_cluster_Step) (Ty.zero Ty_cluster_Step) ((r0.getD (Int.toNat 0) (⟨#[]⟩ : ByteArray)), 0)) else none) else none))) := (script_step_raw k a0).trans (by kernel_rfl)
theorem script_step.c6_eq (k) (x5) (x6) (x7) (b2) (b4) (b20) : script_step.c6 (k + 1) x5 x6 x7 b2 b4 b20 = (bif (decide (b20.2 < b20.1.size)) then ((script_verb k ((Utf8.decode b20.1 b20.2).1 : Int)).bind fun r0 => (script_step.c6 k x5 x6 (IntKind.wrap IntKind.i64 (x7 + 1)) b2 (r0, b4.2) (b20.1, (b20.2 + (Utf8.decode b20.1 b20.2).2)))) else (bif (x7 != 1) then (some ((Ty.zero (Ty.pair Ty.i64 (Ty.pair Ty.i64 (Ty.pair Ty.i64 (Ty.pair Ty.i64 (Ty.pair Ty.i64 (Ty.pair Ty.i64 (Ty.pair (Ty.int IntKind.u8) (Ty.pair Ty.str Ty.str))))))))), false)) else (bif (b4.1 == 0) then (some ((Ty.zero (Ty.pair Ty.i64 (Ty.pair Ty.i64 (Ty.pair Ty.i64 (Ty.pair Ty.i64 (Ty.pair Ty.i64 (Ty.pair Ty.i64 (Ty.pair (Ty.int IntKind.u8) (Ty.pair Ty.str Ty.str))))))))), false)) else (script_step.c12 k x5 x6 b2 b4)))) := by kernel_rfl
theorem script_step.c12_eq (k) (x5) (x6) (b2) (b4) : script_step.c12 (k + 1) x5 x6 b2 b4 = (bif (((decide (0 ≤ 1)) && (decide (1 ≤ (x5.length : Int)))) && (decide ((x5.length : Int) ≤ (x5.length : Int)))) then (bif (b4.1 == 1) then (bif (b4.1 == 1) then (script_step.c18 k (sliceL x5 1 (x5.length : Int)) x6 b2 b4) else (script_step.c19 k (sliceL x5 1 (x5.length : Int)) x6 b4.1 b2 b4 0)) else (bif (b4.1 == 4) then (script_step.c18 k (sliceL x5 1 (x5.length : Int)) x6 b2 b4) else (script_step.c19 k (sliceL x5 1 (x5.length : Int)) x6 b4.1 b2 b4 0))) else none) := by kernel_rfl
theorem script_step.c18_eq (k) (x5) (x6) (b2) (b4) : script_step.c18 (k + 1) x5 x6 b2 b4 = ((script_take.f x6 x5 [true]).bind fun r0 => (script_step.c35 k r0.1 b2 (b4.1, ((newI r0.2 0 b4.2.1), b4.2.2)))) := by kernel_rfl
theorem script_step.c19_eq (k) (x5) (x6) (x40) (b2) (b4) (b10) : script_step.c19 (k + 1) x5 x6 x40 b2 b4 b10 = (bif (x40 == 2) then ((script_take.f x6 x5 [true, false, true]).bind fun r0 => (script_step.c35 k r0.1 b2 (b4.1, ((newI r0.2 0 b4.2.1), (b4.2.2.1, ((newI r0.2 ((0 + 1) + 1) b4.2.2.2.1), (b4.2.2.2.2.1, (b4.2.2.2.2.2.1, (b4.2.2.2.2.2.2.1, ((newS r0.2 (0 + 1) b4.2.2.2.2.2.2.2.1), b4.2.2.2.2.2.2.2.2)))))))))) else (bif (x40 == 3) then ((script_take.f x6 x5 [true, false, false]).bind fun r0 => (script_step.c35 k r0.1 b2 (b4.1, ((newI r0.2 0 b4.2.1), (b4.2.2.1, (b4.2.2.2.1, (b4.2.2.2.2.1, (b4.2.2.2.2.2.1, (b4.2.2.2.2.2.2.1, ((newS r0.2 (0 + 1) b4.2.2.2.2.2.2.2.1), (newS r0.2 ((0 + 1) + 1) b4.2.2.2.2.2.2.2.2))))))))))) else (bif (x40 == 5) then (bif (x40 == 5) then (script_step.c27 k x5 x6 b2 b4) else (script_step.c28 k x5 x6 x40 b2 b4 b10)) else (bif (x40 == 6) then (bif (x40 == 6) then (script_step.c27 k x5 x6 b2 b4) else (script_step.c28 k x5 x6 x40 b2 b4 b10)) else (bif (x40 == 7) then (bif (x40 == 7) then (script_step.c27 k x5 x6 b2 b4) else (script_step.c28 k x5 x6 x40 b2 b4 b10)) else (bif (x40 == 8) then (script_step.c27 k x5 x6 b2 b4) else (script_step.c28 k x5 x6 x40 b2 b4 b10))))))) := by kernel_rfl
theorem script_step.c35_eq (k) (x11) (b2) (b4) : script_step.c35 (k + 1) x11 b2 b4 = (bif (!x11) then (some ((Ty.zero (Ty.pair Ty.i64 (Ty.pair Ty.i64 (Ty.pair Ty.i64 (Ty.pair Ty.i64 (Ty.pair Ty.i64 (Ty.pair Ty.i64 (Ty.pair (Ty.int IntKind.u8) (Ty.pair Ty.str Ty.str))))))))), false)) else (some (b4, true))) := by kernel_rfl
theorem script_step.c27_eq (k) (x5) (x6) (b2) (b4) : script_step.c27 (k + 1) x5 x6 b2 b4 = ((script_take.f x6 x5 [true, true, true]).bind fun r0 => (script_step.c35 k r0.1 b2 (b4.1, ((newI r0.2 0 b4.2.1), ((newI r0.2 (0 + 1) b4.2.2.1), ((newI r0.2 ((0 + 1) + 1) b4.2.2.2.1), b4.2.2.2.2)))))) := by kernel_rfl
theorem script_step.c28_eq (k) (x5) (x6) (x40) (b2) (b4) (b10) : script_step.c28 (k + 1) x5 x6 x40 b2 b4 b10 = (bif (x40 == 13) then (bif (x40 == 13) then (script_step.c31 k x5 x6 b2 b4) else (script_step.c32 k x5 x6 x40 b2 b4 b10)) else (bif (x40 == 14) then (bif (x40 == 14) then (script_step.c31 k x5 x6 b2 b4) else (script_step.c32 k x5 x6 x40 b2 b4 b10)) else (bif (x40 == 15) then (script_step.c31 k x5 x6 b2 b4) else (script_step.c32 k x5 x6 x40 b2 b4 b10)))) := by kernel_rfl
theorem script_step.c31_eq (k) (x5) (x6) (b2) (b4) : script_step.c31 (k + 1) x5 x6 b2 b4 = ((script_take.f x6 x5 [true, true]).bind fun r0 => (script_step.c35 k r0.1 b2 (b4.1, (b4.2.1, ((newI r0.2 0 b4.2.2.1), (b4.2.2.2.1, ((newI r0.2 (0 + 1) b4.2.2.2.2.1), b4.2.2.2.2.2))))))) := by kernel_rfl
theorem script_step.c32_eq (k) (x5) (x6) (x40) (b2) (b4) (b10) : script_step.c32 (k + 1) x5 x6 x40 b2 b4 b10 = (bif (x40 == 16) then ((script_take.f x6 x5 [true, true, true, true, true]).bind fun r0 => (script_step.c35 k r0.1 b2 (b4.1, (b4.2.1, ((newI r0.2 0 b4.2.2.1), ((newI r0.2 (0 + 1) b4.2.2.2.1), ((newI r0.2 ((0 + 1) + 1) b4.2.2.2.2.1), ((newI r0.2 (((0 + 1) + 1) + 1) b4.2.2.2.2.2.1), ((IntKind.wrap IntKind.u8 (newI r0.2 ((((0 + 1) + 1) + 1) + 1) b10)), b4.2.2.2.2.2.2.2))))))))) else ((script_take.f x6 x5 [true, true]).bind fun r0 => (script_step.c35 k r0.1 b2 (b4.1, (b4.2.1, ((newI r0.2 0 b4.2.2.1), ((newI r0.2 (0 + 1) b4.2.2.2.1), b4.2.2.2.2))))))) := by kernel_rfl
theorem script_Parse_eq (k) (a0) : script_Parse k a0 = (bif (decide ((a0.size : Int) > 32768)) then ((script_usual k).bind fun r0 => (some (r0, ([], (-1))))) else ((strings_Split.f a0 (⟨#[10]⟩ : ByteArray)).bind fun r0 => (bif (inI 0 r0.length) then ((script_Parts k (r0.getD (Int.toNat 0) (⟨#[]⟩ : ByteArray))).bind fun r1 => ((script_take.f r1 [] [true, true, true, true, true]).bind fun r2 => (bif (!r2.1) then ((script_usual k).bind fun r3 => (script_Parse.c8 k r0 1 (Ty.zero Ty_cluster_Config) r3)) else ((cluster_Right k ((newI r2.2 0 0), ((newI r2.2 (0 + 1) 0), ((newI r2.2 ((0 + 1) + 1) 0), ((newI r2.2 (((0 + 1) + 1) + 1) 0), (newI r2.2 ((((0 + 1) + 1) + 1) + 1) 0)))))).bind fun r3 => (bif (!r3) then ((script_usual k).bind fun r4 => (script_Parse.c8 k r0 1 (Ty.zero Ty_cluster_Config) r4)) else (script_Parse.c8 k r0 0 (Ty.zero Ty_cluster_Config) ((newI r2.2 0 0), ((newI r2.2 (0 + 1) 0), ((newI r2.2 ((0 + 1) + 1) 0), ((newI r2.2 (((0 + 1) + 1) + 1) 0), (newI r2.2 ((((0 + 1) + 1) + 1) + 1) 0))))))))))) else none))) := (script_Parse_raw k a0).trans (by kernel_rfl)
theorem script_Parse.c8_eq (k) (x5) (x7) (b2) (b6) : script_Parse.c8 (k + 1) x5 x7 b2 b6 = (bif (((decide (0 ≤ 1)) && (decide (1 ≤ (x5.length : Int)))) && (decide ((x5.length : Int) ≤ (x5.length : Int)))) then (script_Parse.c10 k x7 [] (sliceL x5 1 (x5.length : Int)) ((sliceL x5 1 (x5.length : Int)).length : Int) 0 b2 b6) else none) := by kernel_rfl
theorem script_Parse.c10_eq (k) (x7) (x8) (x43) (x44) (x45) (b2) (b6) : script_Parse.c10 (k + 1) x7 x8 x43 x44 x45 b2 b6 = (bif (decide (x45 < x44)) then (bif (inI x45 x43.length) then ((script_step k (x43.getD (Int.toNat x45) (⟨#[]⟩ : ByteArray))).bind fun r0 => (bif (!r0.2) then (script_Parse.c10 k (IntKind.wrap IntKind.i64 (x7 + 1)) x8 x43 x44 (IntKind.wrap IntKind.i64 (x45 + 1)) b2 b6) else (bif (decide ((x8.length + 1) < 4294967296)) then (script_Parse.c10 k x7 (x8 ++ [r0.1]) x43 x44 (IntKind.wrap IntKind.i64 (x45 + 1)) b2 b6) else none))) else none) else (some (b6, (x8, x7)))) := by kernel_rfl
end Go.Proofs.YtigimlfelogdlaaGreatDoor.V
end
section
namespace Go.Proofs.YtigimlfelogdlaaGreatDoor.V
open Go.Vm Go.RowKit
set_option linter.unusedVariables false
set_option linter.unusedSimpArgs false
abbrev RunR : Ty := .tup (.pair (.sl 30 .i64) (.pair (.sl 111 Ty_check_Trip) .i64))
noncomputable def script_Run.f (k : Nat) (s : ByteArray) : Option (List Int × List Ty_check_Trip.den × Int) := (script_Parse k s).bind fun r => bif decide (r.2.2 < 0) then some ([], [], 15) else none
noncomputable def script_Run.spec (k : Nat) : Go.Vm.Spec := .pu [.val .str] RunR (script_Run.f k)
theorem parse_back {w : World} {S : Nat → Prop} {a b c d e : Int} {l : List Ty_cluster_Step.den} {bad : Int} {v : Value} (h : RelD w S script_Parse.r ((a, b, c, d, e), l, bad) v) :
    ∃ A n, v = .tuple #[.agg #[.int .i64 a, .int .i64 b, .int .i64 c, .int .i64 d, .int .i64 e], .slice A l.length n, .int .i64 bad] := by
  obtain ⟨vs, rfl, v0, l0, e0, ⟨cs, rfl, hc⟩, v1, l1, e1, h1, v2, e2, h2⟩ := h
  obtain ⟨A, n, hs, _⟩ := h1
  obtain rfl := List.singleton_inj.1 hs
  obtain rfl : v2 = .int .i64 bad := List.singleton_inj.1 h2
  obtain ⟨c0, r0, g0, rfl, c1, r1, rfl, rfl, c2, r2, rfl, rfl, c3, c4, rfl, rfl, rfl⟩ := hc
  subst e2
  subst e1
  refine ⟨A, n, ?_⟩
  have hv : vs = #[.agg cs, .slice A l.length n, .int .i64 bad] := by
    apply Array.ext'
    rw [e0]
  rw [hv]
  have hcs : cs = #[.int .i64 a, .int .i64 b, .int .i64 c, .int .i64 d, .int .i64 e] := by
    apply Array.ext'
    rw [g0]
    rfl
  rw [hcs]
set_option maxRecDepth 100000 in
set_option maxHeartbeats 4000000 in
theorem run_calls (s : ByteArray) (w : World) (S : Nat → Prop) (a b c d e bad : Int) (l : List Ty_cluster_Step.den) (hb : bad < 0)
    (hcall : Calls Tryz.prog 5 #[.string s] w (Ret w S script_Parse.r ((a, b, c, d, e), l, bad))) :
    Calls Tryz.prog 6 #[.string s] w fun e w' => e = .returned (.tuple #[.slice none 0 0, .slice none 0 0, .int .i64 15]) ∧ Below w.heap.size w w' := by
  have HC := Lib.hid hcall
  clear hcall
  go_enter Tryz.func6, Tryz.ntmps6
  go_wp2_with (first | (go_at_call 5; refine HC.out.mono ?_; rintro e w' ⟨v, rfl, hrel, hB⟩; obtain ⟨A, n, rfl⟩ := parse_back hrel; have HB := Lib.hid hB; clear hrel hB))
  go_ret3
  exact ⟨rfl, HB.out.alloc HB.out.size _⟩
theorem script_Run.ok (k : Nat) : SpecOk Tryz.prog 6 (script_Run.spec k) := by
  refine ⟨Tryz.call6, fun w S S1 xs vs y h01 hlt hargs hy => ?_⟩
  obtain ⟨s, _⟩ := xs
  obtain ⟨v0, vs, rfl, h0, hn⟩ := hargs
  have hn' : vs = [] := hn
  subst hn'
  obtain rfl : v0 = .string s := List.singleton_inj.1 h0
  have hy' : script_Run.f k s = some y := hy
  unfold script_Run.f at hy'
  cases hp : script_Parse k s with
  | none => rw [hp] at hy'; cases hy'
  | some r =>
    obtain ⟨⟨a, b, c, d, e⟩, l, bad⟩ := r
    rw [hp] at hy'
    cases hb : decide (bad < 0) with
    | false =>
      have : (bif decide (bad < 0) then some (([], [], 15) : List Int × List Ty_check_Trip.den × Int) else none) = some y := hy'
      rw [hb] at this
      cases this
    | true =>
      have : (bif decide (bad < 0) then some (([], [], 15) : List Int × List Ty_check_Trip.den × Int) else none) = some y := hy'
      rw [hb] at this
      obtain rfl := Option.some.inj this
      have hspec := ok_script_Parse k 5 (.pu script_Parse.ps script_Parse.r (script_Parse k)) (by unfold G_script_Parse ins; rfl)
      have hcall := hspec.2 w S S1 (s, ()) [.string s] ((a, b, c, d, e), l, bad) h01 hlt ⟨_, _, rfl, rfl, rfl⟩ hp
      refine (run_calls s w S a b c d e bad l (of_decide_eq_true hb) hcall).mono ?_
      rintro e w' ⟨rfl, hB⟩
      refine ⟨_, rfl, ⟨_, rfl, _, _, rfl, ⟨none, 0, rfl, Nat.le_refl _, fun h => absurd h (Nat.lt_irrefl 0)⟩, _, _, rfl, ⟨none, 0, rfl, Nat.le_refl _, fun h => absurd h (Nat.lt_irrefl 0)⟩, _, rfl, rfl⟩, hB⟩
end Go.Proofs.YtigimlfelogdlaaGreatDoor.V
end
section
set_option linter.unusedVariables false
namespace Go.Proofs.YtigimlfelogdlaaGreatDoor.V
open Go.Vm
def althinglaw21_awake.cuts : List (Nat × List CK) := []
abbrev althinglaw21_awake.ps : List PK := []
abbrev althinglaw21_awake.r : Ty := .bool
noncomputable def althinglaw21_awake.raw (k : Nat) : Option Bool := runF Alg.std G_script_Parse T Tryz.f4 althinglaw21_awake.cuts althinglaw21_awake.ps althinglaw21_awake.r k
noncomputable def althinglaw21_awake (k : Nat) : Option Bool := sealed althinglaw21_awake.raw k
theorem althinglaw21_awake_raw (k : Nat) : althinglaw21_awake k = althinglaw21_awake.raw k := by unfold althinglaw21_awake; rw [sealed_eq]
noncomputable def G_althinglaw21_awake (k : Nat) : Gam := ins 4 (.pu althinglaw21_awake.ps althinglaw21_awake.r (althinglaw21_awake k)) (G_script_Parse k)
theorem ok_althinglaw21_awake : GOk Tryz.prog G_althinglaw21_awake := ok_script_Parse.ins fun k => by rw [show althinglaw21_awake k = althinglaw21_awake.raw k from congrFun (sealed_eq althinglaw21_awake.raw) k]; exact runF_ok tabOk ok_script_Parse mix Tryz.func4 Tryz.call4 althinglaw21_awake.cuts althinglaw21_awake.ps althinglaw21_awake.r (by rw [Tryz.ntmps4]; decide) k
noncomputable def G_script_Run (k : Nat) : Gam := ins 6 (script_Run.spec k) (G_althinglaw21_awake k)
theorem ok_script_Run : GOk Tryz.prog G_script_Run := ok_althinglaw21_awake.ins (script_Run.ok)
def althingref21_split.s3 : List CK := [.tmp 0 .str, .tmp 1 (.int .u8), .own 5 9 .str, .tmp 6 Ty.i64]
def althingref21_split.cuts : List (Nat × List CK) := [(3, althingref21_split.s3)]
abbrev althingref21_split.ps : List PK := [.val .str, .val (.int .u8)]
abbrev althingref21_split.r : Ty := (.sl 9 .str)
noncomputable def althingref21_split.raw (k : Nat) (a0 : ByteArray) (a1 : Int) : Option (List ByteArray) := runF Alg.std G_script_Run T Tryz.f19 althingref21_split.cuts althingref21_split.ps althingref21_split.r k a0 a1
noncomputable def althingref21_split (k : Nat) (a0 : ByteArray) (a1 : Int) : Option (List ByteArray) := sealed althingref21_split.raw k a0 a1
theorem althingref21_split_raw (k : Nat) (a0 : ByteArray) (a1 : Int) : althingref21_split k a0 a1 = althingref21_split.raw k a0 a1 := by unfold althingref21_split; rw [sealed_eq]
noncomputable def althingref21_split.c3 (k : Nat) (x0 : ByteArray) (x1 : Int) (x5 : List ByteArray) (x6 : Int) : Option (List ByteArray) := runC Alg.std G_script_Run T Tryz.f19 althingref21_split.cuts althingref21_split.r 3 althingref21_split.s3 k (x0, x1, x5, x6, ())
noncomputable def G_althingref21_split (k : Nat) : Gam := ins 19 (.pu althingref21_split.ps althingref21_split.r (althingref21_split k)) (G_script_Run k)
theorem ok_althingref21_split : GOk Tryz.prog G_althingref21_split := ok_script_Run.ins fun k => by rw [show althingref21_split k = althingref21_split.raw k from congrFun (sealed_eq althingref21_split.raw) k]; exact runF_ok tabOk ok_script_Run mix Tryz.func19 Tryz.call19 althingref21_split.cuts althingref21_split.ps althingref21_split.r (by rw [Tryz.ntmps19]; decide) k
def althingref21_Parts.cuts : List (Nat × List CK) := []
abbrev althingref21_Parts.ps : List PK := [.val .str]
abbrev althingref21_Parts.r : Ty := (.sl 9 .str)
noncomputable def althingref21_Parts.raw (k : Nat) (a0 : ByteArray) : Option (List ByteArray) := runF Alg.std G_althingref21_split T Tryz.f20 althingref21_Parts.cuts althingref21_Parts.ps althingref21_Parts.r k a0
noncomputable def althingref21_Parts (k : Nat) (a0 : ByteArray) : Option (List ByteArray) := sealed althingref21_Parts.raw k a0
theorem althingref21_Parts_raw (k : Nat) (a0 : ByteArray) : althingref21_Parts k a0 = althingref21_Parts.raw k a0 := by unfold althingref21_Parts; rw [sealed_eq]
noncomputable def G_althingref21_Parts (k : Nat) : Gam := ins 20 (.pu althingref21_Parts.ps althingref21_Parts.r (althingref21_Parts k)) (G_althingref21_split k)
theorem ok_althingref21_Parts : GOk Tryz.prog G_althingref21_Parts := ok_althingref21_split.ins fun k => by rw [show althingref21_Parts k = althingref21_Parts.raw k from congrFun (sealed_eq althingref21_Parts.raw) k]; exact runF_ok tabOk ok_althingref21_split mix Tryz.func20 Tryz.call20 althingref21_Parts.cuts althingref21_Parts.ps althingref21_Parts.r (by rw [Tryz.ntmps20]; decide) k
def althingref21_Number.s5 : List CK := [.tmp 0 .str, .tmp 4 Ty.i64, .tmp 5 Ty.i64]
def althingref21_Number.s9 : List CK := [.tmp 0 .str, .tmp 4 Ty.i64, .tmp 5 Ty.i64]
def althingref21_Number.cuts : List (Nat × List CK) := [(5, althingref21_Number.s5), (9, althingref21_Number.s9)]
abbrev althingref21_Number.ps : List PK := [.val .str]
abbrev althingref21_Number.r : Ty := (.tup (.pair Ty.i64 .bool))
noncomputable def althingref21_Number.raw (k : Nat) (a0 : ByteArray) : Option (Int × Bool) := runF Alg.std G_althingref21_Parts T Tryz.f21 althingref21_Number.cuts althingref21_Number.ps althingref21_Number.r k a0
noncomputable def althingref21_Number (k : Nat) (a0 : ByteArray) : Option (Int × Bool) := sealed althingref21_Number.raw k a0
theorem althingref21_Number_raw (k : Nat) (a0 : ByteArray) : althingref21_Number k a0 = althingref21_Number.raw k a0 := by unfold althingref21_Number; rw [sealed_eq]
noncomputable def althingref21_Number.c5 (k : Nat) (x0 : ByteArray) (x4 : Int) (x5 : Int) : Option (Int × Bool) := runC Alg.std G_althingref21_Parts T Tryz.f21 althingref21_Number.cuts althingref21_Number.r 5 althingref21_Number.s5 k (x0, x4, x5, ())
noncomputable def althingref21_Number.c9 (k : Nat) (x0 : ByteArray) (x4 : Int) (x5 : Int) : Option (Int × Bool) := runC Alg.std G_althingref21_Parts T Tryz.f21 althingref21_Number.cuts althingref21_Number.r 9 althingref21_Number.s9 k (x0, x4, x5, ())
noncomputable def G_althingref21_Number (k : Nat) : Gam := ins 21 (.pu althingref21_Number.ps althingref21_Number.r (althingref21_Number k)) (G_althingref21_Parts k)
theorem ok_althingref21_Number : GOk Tryz.prog G_althingref21_Number := ok_althingref21_Parts.ins fun k => by rw [show althingref21_Number k = althingref21_Number.raw k from congrFun (sealed_eq althingref21_Number.raw) k]; exact runF_ok tabOk ok_althingref21_Parts mix Tryz.func21 Tryz.call21 althingref21_Number.cuts althingref21_Number.ps althingref21_Number.r (by rw [Tryz.ntmps21]; decide) k
def althingref20_Right.cuts : List (Nat × List CK) := []
abbrev althingref20_Right.ps : List PK := [.val Ty_cluster_Config]
abbrev althingref20_Right.r : Ty := .bool
noncomputable def althingref20_Right.raw (k : Nat) (a0 : Ty_cluster_Config.den) : Option Bool := runF Alg.std G_althingref21_Number T Tryz.f22 althingref20_Right.cuts althingref20_Right.ps althingref20_Right.r k a0
noncomputable def althingref20_Right (k : Nat) (a0 : Ty_cluster_Config.den) : Option Bool := sealed althingref20_Right.raw k a0
theorem althingref20_Right_raw (k : Nat) (a0 : Ty_cluster_Config.den) : althingref20_Right k a0 = althingref20_Right.raw k a0 := by unfold althingref20_Right; rw [sealed_eq]
noncomputable def G_althingref20_Right (k : Nat) : Gam := ins 22 (.pu althingref20_Right.ps althingref20_Right.r (althingref20_Right k)) (G_althingref21_Number k)
theorem ok_althingref20_Right : GOk Tryz.prog G_althingref20_Right := ok_althingref21_Number.ins fun k => by rw [show althingref20_Right k = althingref20_Right.raw k from congrFun (sealed_eq althingref20_Right.raw) k]; exact runF_ok tabOk ok_althingref21_Number mix Tryz.func22 Tryz.call22 althingref20_Right.cuts althingref20_Right.ps althingref20_Right.r (by rw [Tryz.ntmps22]; decide) k
def althingref04_tail.cuts : List (Nat × List CK) := []
abbrev althingref04_tail.ps : List PK := [.val .str, .val Ty.i64, .val Ty.i64, .val Ty.i64]
abbrev althingref04_tail.r : Ty := .bool
noncomputable def althingref04_tail.raw (k : Nat) (a0 : ByteArray) (a1 : Int) (a2 : Int) (a3 : Int) : Option Bool := runF Alg.std G_althingref20_Right T Tryz.f134 althingref04_tail.cuts althingref04_tail.ps althingref04_tail.r k a0 a1 a2 a3
noncomputable def althingref04_tail (k : Nat) (a0 : ByteArray) (a1 : Int) (a2 : Int) (a3 : Int) : Option Bool := sealed althingref04_tail.raw k a0 a1 a2 a3
theorem althingref04_tail_raw (k : Nat) (a0 : ByteArray) (a1 : Int) (a2 : Int) (a3 : Int) : althingref04_tail k a0 a1 a2 a3 = althingref04_tail.raw k a0 a1 a2 a3 := by unfold althingref04_tail; rw [sealed_eq]
noncomputable def G_althingref04_tail (k : Nat) : Gam := ins 134 (.pu althingref04_tail.ps althingref04_tail.r (althingref04_tail k)) (G_althingref20_Right k)
theorem ok_althingref04_tail : GOk Tryz.prog G_althingref04_tail := ok_althingref20_Right.ins fun k => by rw [show althingref04_tail k = althingref04_tail.raw k from congrFun (sealed_eq althingref04_tail.raw) k]; exact runF_ok tabOk ok_althingref20_Right mix Tryz.func134 Tryz.call134 althingref04_tail.cuts althingref04_tail.ps althingref04_tail.r (by rw [Tryz.ntmps134]; decide) k
def althingref04_first.s5 : List CK := [.tmp 0 .str, .tmp 4 Ty.i64]
def althingref04_first.s6 : List CK := [.tmp 0 .str, .tmp 4 Ty.i64]
def althingref04_first.s12 : List CK := [.tmp 0 .str, .tmp 4 Ty.i64, .tmp 5 Ty.i64, .tmp 6 Ty.i64]
def althingref04_first.s13 : List CK := [.tmp 0 .str, .tmp 4 Ty.i64]
def althingref04_first.s14 : List CK := [.tmp 0 .str, .tmp 4 Ty.i64]
def althingref04_first.s20 : List CK := [.tmp 0 .str, .tmp 4 Ty.i64, .tmp 5 Ty.i64, .tmp 6 Ty.i64]
def althingref04_first.s21 : List CK := [.tmp 0 .str, .tmp 4 Ty.i64]
def althingref04_first.cuts : List (Nat × List CK) := [(5, althingref04_first.s5), (6, althingref04_first.s6), (12, althingref04_first.s12), (13, althingref04_first.s13), (14, althingref04_first.s14), (20, althingref04_first.s20), (21, althingref04_first.s21)]
abbrev althingref04_first.ps : List PK := [.val .str]
abbrev althingref04_first.r : Ty := (.tup (.pair Ty.i64 Ty.i64))
noncomputable def althingref04_first.raw (k : Nat) (a0 : ByteArray) : Option (Int × Int) := runF Alg.std G_althingref04_tail T Tryz.f80 althingref04_first.cuts althingref04_first.ps althingref04_first.r k a0
noncomputable def althingref04_first (k : Nat) (a0 : ByteArray) : Option (Int × Int) := sealed althingref04_first.raw k a0
theorem althingref04_first_raw (k : Nat) (a0 : ByteArray) : althingref04_first k a0 = althingref04_first.raw k a0 := by unfold althingref04_first; rw [sealed_eq]
noncomputable def althingref04_first.c5 (k : Nat) (x0 : ByteArray) (x4 : Int) : Option (Int × Int) := runC Alg.std G_althingref04_tail T Tryz.f80 althingref04_first.cuts althingref04_first.r 5 althingref04_first.s5 k (x0, x4, ())
noncomputable def althingref04_first.c6 (k : Nat) (x0 : ByteArray) (x4 : Int) : Option (Int × Int) := runC Alg.std G_althingref04_tail T Tryz.f80 althingref04_first.cuts althingref04_first.r 6 althingref04_first.s6 k (x0, x4, ())
noncomputable def althingref04_first.c12 (k : Nat) (x0 : ByteArray) (x4 : Int) (x5 : Int) (x6 : Int) : Option (Int × Int) := runC Alg.std G_althingref04_tail T Tryz.f80 althingref04_first.cuts althingref04_first.r 12 althingref04_first.s12 k (x0, x4, x5, x6, ())
noncomputable def althingref04_first.c13 (k : Nat) (x0 : ByteArray) (x4 : Int) : Option (Int × Int) := runC Alg.std G_althingref04_tail T Tryz.f80 althingref04_first.cuts althingref04_first.r 13 althingref04_first.s13 k (x0, x4, ())
noncomputable def althingref04_first.c14 (k : Nat) (x0 : ByteArray) (x4 : Int) : Option (Int × Int) := runC Alg.std G_althingref04_tail T Tryz.f80 althingref04_first.cuts althingref04_first.r 14 althingref04_first.s14 k (x0, x4, ())
noncomputable def althingref04_first.c20 (k : Nat) (x0 : ByteArray) (x4 : Int) (x5 : Int) (x6 : Int) : Option (Int × Int) := runC Alg.std G_althingref04_tail T Tryz.f80 althingref04_first.cuts althingref04_first.r 20 althingref04_first.s20 k (x0, x4, x5, x6, ())
noncomputable def althingref04_first.c21 (k : Nat) (x0 : ByteArray) (x4 : Int) : Option (Int × Int) := runC Alg.std G_althingref04_tail T Tryz.f80 althingref04_first.cuts althingref04_first.r 21 althingref04_first.s21 k (x0, x4, ())
noncomputable def G_althingref04_first (k : Nat) : Gam := ins 80 (.pu althingref04_first.ps althingref04_first.r (althingref04_first k)) (G_althingref04_tail k)
theorem ok_althingref04_first : GOk Tryz.prog G_althingref04_first := ok_althingref04_tail.ins fun k => by rw [show althingref04_first k = althingref04_first.raw k from congrFun (sealed_eq althingref04_first.raw) k]; exact runF_ok tabOk ok_althingref04_tail mix Tryz.func80 Tryz.call80 althingref04_first.cuts althingref04_first.ps althingref04_first.r (by rw [Tryz.ntmps80]; decide) k
def althingref04_Runes.s2 : List CK := [.tmp 0 .str, .own 3 3 Ty.i64]
def althingref04_Runes.cuts : List (Nat × List CK) := [(2, althingref04_Runes.s2)]
abbrev althingref04_Runes.ps : List PK := [.val .str]
abbrev althingref04_Runes.r : Ty := (.sl 3 Ty.i64)
noncomputable def althingref04_Runes.raw (k : Nat) (a0 : ByteArray) : Option (List Int) := runF Alg.std G_althingref04_first T Tryz.f40 althingref04_Runes.cuts althingref04_Runes.ps althingref04_Runes.r k a0
noncomputable def althingref04_Runes (k : Nat) (a0 : ByteArray) : Option (List Int) := sealed althingref04_Runes.raw k a0
theorem althingref04_Runes_raw (k : Nat) (a0 : ByteArray) : althingref04_Runes k a0 = althingref04_Runes.raw k a0 := by unfold althingref04_Runes; rw [sealed_eq]
noncomputable def althingref04_Runes.c2 (k : Nat) (x0 : ByteArray) (x3 : List Int) : Option (List Int) := runC Alg.std G_althingref04_first T Tryz.f40 althingref04_Runes.cuts althingref04_Runes.r 2 althingref04_Runes.s2 k (x0, x3, ())
noncomputable def G_althingref04_Runes (k : Nat) : Gam := ins 40 (.pu althingref04_Runes.ps althingref04_Runes.r (althingref04_Runes k)) (G_althingref04_first k)
theorem ok_althingref04_Runes : GOk Tryz.prog G_althingref04_Runes := ok_althingref04_first.ins fun k => by rw [show althingref04_Runes k = althingref04_Runes.raw k from congrFun (sealed_eq althingref04_Runes.raw) k]; exact runF_ok tabOk ok_althingref04_first mix Tryz.func40 Tryz.call40 althingref04_Runes.cuts althingref04_Runes.ps althingref04_Runes.r (by rw [Tryz.ntmps40]; decide) k
def althingref21_Rune.s4 : List CK := [.tmp 0 Ty.i64, .own 3 3 Ty.i64]
def althingref21_Rune.cuts : List (Nat × List CK) := [(4, althingref21_Rune.s4)]
abbrev althingref21_Rune.ps : List PK := [.val Ty.i64]
abbrev althingref21_Rune.r : Ty := Ty.i64
noncomputable def althingref21_Rune.raw (k : Nat) (a0 : Int) : Option Int := runF Alg.std G_althingref04_Runes T Tryz.f41 althingref21_Rune.cuts althingref21_Rune.ps althingref21_Rune.r k a0
noncomputable def althingref21_Rune (k : Nat) (a0 : Int) : Option Int := sealed althingref21_Rune.raw k a0
theorem althingref21_Rune_raw (k : Nat) (a0 : Int) : althingref21_Rune k a0 = althingref21_Rune.raw k a0 := by unfold althingref21_Rune; rw [sealed_eq]
noncomputable def althingref21_Rune.c4 (k : Nat) (x0 : Int) (x3 : List Int) : Option Int := runC Alg.std G_althingref04_Runes T Tryz.f41 althingref21_Rune.cuts althingref21_Rune.r 4 althingref21_Rune.s4 k (x0, x3, ())
noncomputable def G_althingref21_Rune (k : Nat) : Gam := ins 41 (.pu althingref21_Rune.ps althingref21_Rune.r (althingref21_Rune k)) (G_althingref04_Runes k)
theorem ok_althingref21_Rune : GOk Tryz.prog G_althingref21_Rune := ok_althingref04_Runes.ins fun k => by rw [show althingref21_Rune k = althingref21_Rune.raw k from congrFun (sealed_eq althingref21_Rune.raw) k]; exact runF_ok tabOk ok_althingref04_Runes mix Tryz.func41 Tryz.call41 althingref21_Rune.cuts althingref21_Rune.ps althingref21_Rune.r (by rw [Tryz.ntmps41]; decide) k
def althingref21_kinds.cuts : List (Nat × List CK) := []
abbrev althingref21_kinds.ps : List PK := [.val Ty.i64]
abbrev althingref21_kinds.r : Ty := .str
noncomputable def althingref21_kinds.raw (k : Nat) (a0 : Int) : Option ByteArray := runF Alg.std G_althingref21_Rune T Tryz.f42 althingref21_kinds.cuts althingref21_kinds.ps althingref21_kinds.r k a0
noncomputable def althingref21_kinds (k : Nat) (a0 : Int) : Option ByteArray := sealed althingref21_kinds.raw k a0
theorem althingref21_kinds_raw (k : Nat) (a0 : Int) : althingref21_kinds k a0 = althingref21_kinds.raw k a0 := by unfold althingref21_kinds; rw [sealed_eq]
noncomputable def G_althingref21_kinds (k : Nat) : Gam := ins 42 (.pu althingref21_kinds.ps althingref21_kinds.r (althingref21_kinds k)) (G_althingref21_Rune k)
theorem ok_althingref21_kinds : GOk Tryz.prog G_althingref21_kinds := ok_althingref21_Rune.ins fun k => by rw [show althingref21_kinds k = althingref21_kinds.raw k from congrFun (sealed_eq althingref21_kinds.raw) k]; exact runF_ok tabOk ok_althingref21_Rune mix Tryz.func42 Tryz.call42 althingref21_kinds.cuts althingref21_kinds.ps althingref21_kinds.r (by rw [Tryz.ntmps42]; decide) k
def althingref21_Step.s5 : List CK := [.ptr 2 2 Ty_cluster_Step, .tmp 4 (.sl 9 .str), .tmp 5 (.sl 3 Ty.i64), .tmp 6 Ty.i64, .tmp 7 Ty.i64, .box 2 Ty_cluster_Step []]
def althingref21_Step.s6 : List CK := [.ptr 2 2 Ty_cluster_Step, .tmp 4 (.sl 9 .str), .tmp 5 (.sl 3 Ty.i64), .tmp 6 Ty.i64, .tmp 7 Ty.i64, .box 2 Ty_cluster_Step []]
def althingref21_Step.s17 : List CK := [.ptr 2 2 Ty_cluster_Step, .tmp 4 (.sl 9 .str), .tmp 6 Ty.i64, .ptr 8 8 Ty_cluster_Step, .tmp 9 .str, .own 10 3 Ty.i64, .tmp 11 Ty.i64, .box 2 Ty_cluster_Step [], .box 8 Ty_cluster_Step []]
def althingref21_Step.s22 : List CK := [.ptr 2 2 Ty_cluster_Step, .tmp 4 (.sl 9 .str), .tmp 6 Ty.i64, .ptr 8 8 Ty_cluster_Step, .tmp 9 .str, .own 10 3 Ty.i64, .tmp 11 Ty.i64, .tmp 12 Ty.i64, .box 2 Ty_cluster_Step [], .box 8 Ty_cluster_Step []]
def althingref21_Step.s26 : List CK := [.ptr 2 2 Ty_cluster_Step, .tmp 4 (.sl 9 .str), .tmp 6 Ty.i64, .own 10 3 Ty.i64, .ptr 14 14 Ty_cluster_Step, .box 2 Ty_cluster_Step [], .box 14 Ty_cluster_Step []]
def althingref21_Step.s29 : List CK := [.ptr 2 2 Ty_cluster_Step, .tmp 4 (.sl 9 .str), .tmp 6 Ty.i64, .own 10 3 Ty.i64, .ptr 14 14 Ty_cluster_Step, .box 2 Ty_cluster_Step [], .box 14 Ty_cluster_Step []]
def althingref21_Step.s32 : List CK := [.ptr 2 2 Ty_cluster_Step, .tmp 6 Ty.i64, .own 10 3 Ty.i64, .ptr 14 14 Ty_cluster_Step, .box 2 Ty_cluster_Step [], .box 14 Ty_cluster_Step []]
def althingref21_Step.s33 : List CK := [.ptr 2 2 Ty_cluster_Step, .tmp 6 Ty.i64, .own 10 3 Ty.i64, .ptr 14 14 Ty_cluster_Step, .box 2 Ty_cluster_Step [], .box 14 Ty_cluster_Step []]
def althingref21_Step.s35 : List CK := [.ptr 2 2 Ty_cluster_Step, .tmp 6 Ty.i64, .own 10 3 Ty.i64, .ptr 14 14 Ty_cluster_Step, .box 2 Ty_cluster_Step [], .box 14 Ty_cluster_Step []]
def althingref21_Step.s37 : List CK := [.ptr 2 2 Ty_cluster_Step, .tmp 6 Ty.i64, .own 10 3 Ty.i64, .ptr 14 14 Ty_cluster_Step, .box 2 Ty_cluster_Step [], .box 14 Ty_cluster_Step []]
def althingref21_Step.s39 : List CK := [.ptr 2 2 Ty_cluster_Step, .tmp 6 Ty.i64, .own 10 3 Ty.i64, .ptr 14 14 Ty_cluster_Step, .box 2 Ty_cluster_Step [], .box 14 Ty_cluster_Step []]
def althingref21_Step.s41 : List CK := [.ptr 2 2 Ty_cluster_Step, .tmp 6 Ty.i64, .own 10 3 Ty.i64, .ptr 14 14 Ty_cluster_Step, .box 2 Ty_cluster_Step [], .box 14 Ty_cluster_Step []]
def althingref21_Step.cuts : List (Nat × List CK) := [(5, althingref21_Step.s5), (6, althingref21_Step.s6), (17, althingref21_Step.s17), (22, althingref21_Step.s22), (26, althingref21_Step.s26), (29, althingref21_Step.s29), (32, althingref21_Step.s32), (33, althingref21_Step.s33), (35, althingref21_Step.s35), (37, althingref21_Step.s37), (39, althingref21_Step.s39), (41, althingref21_Step.s41)]
abbrev althingref21_Step.ps : List PK := [.val .str]
abbrev althingref21_Step.r : Ty := (.tup (.pair Ty_cluster_Step .bool))
noncomputable def althingref21_Step.raw (k : Nat) (a0 : ByteArray) : Option (Ty_cluster_Step.den × Bool) := runF Alg.std G_althingref21_kinds T Tryz.f23 althingref21_Step.cuts althingref21_Step.ps althingref21_Step.r k a0
noncomputable def althingref21_Step (k : Nat) (a0 : ByteArray) : Option (Ty_cluster_Step.den × Bool) := sealed althingref21_Step.raw k a0
theorem althingref21_Step_raw (k : Nat) (a0 : ByteArray) : althingref21_Step k a0 = althingref21_Step.raw k a0 := by unfold althingref21_Step; rw [sealed_eq]
noncomputable def althingref21_Step.c5 (k : Nat) (x4 : List ByteArray) (x5 : List Int) (x6 : Int) (x7 : Int) (b2 : Ty_cluster_Step.den) : Option (Ty_cluster_Step.den × Bool) := runC Alg.std G_althingref21_kinds T Tryz.f23 althingref21_Step.cuts althingref21_Step.r 5 althingref21_Step.s5 k ((), x4, x5, x6, x7, b2, ())
noncomputable def althingref21_Step.c6 (k : Nat) (x4 : List ByteArray) (x5 : List Int) (x6 : Int) (x7 : Int) (b2 : Ty_cluster_Step.den) : Option (Ty_cluster_Step.den × Bool) := runC Alg.std G_althingref21_kinds T Tryz.f23 althingref21_Step.cuts althingref21_Step.r 6 althingref21_Step.s6 k ((), x4, x5, x6, x7, b2, ())
noncomputable def althingref21_Step.c17 (k : Nat) (x4 : List ByteArray) (x6 : Int) (x9 : ByteArray) (x10 : List Int) (x11 : Int) (b2 : Ty_cluster_Step.den) (b8 : Ty_cluster_Step.den) : Option (Ty_cluster_Step.den × Bool) := runC Alg.std G_althingref21_kinds T Tryz.f23 althingref21_Step.cuts althingref21_Step.r 17 althingref21_Step.s17 k ((), x4, x6, (), x9, x10, x11, b2, b8, ())
noncomputable def althingref21_Step.c22 (k : Nat) (x4 : List ByteArray) (x6 : Int) (x9 : ByteArray) (x10 : List Int) (x11 : Int) (x12 : Int) (b2 : Ty_cluster_Step.den) (b8 : Ty_cluster_Step.den) : Option (Ty_cluster_Step.den × Bool) := runC Alg.std G_althingref21_kinds T Tryz.f23 althingref21_Step.cuts althingref21_Step.r 22 althingref21_Step.s22 k ((), x4, x6, (), x9, x10, x11, x12, b2, b8, ())
noncomputable def althingref21_Step.c26 (k : Nat) (x4 : List ByteArray) (x6 : Int) (x10 : List Int) (b2 : Ty_cluster_Step.den) (b14 : Ty_cluster_Step.den) : Option (Ty_cluster_Step.den × Bool) := runC Alg.std G_althingref21_kinds T Tryz.f23 althingref21_Step.cuts althingref21_Step.r 26 althingref21_Step.s26 k ((), x4, x6, x10, (), b2, b14, ())
noncomputable def althingref21_Step.c29 (k : Nat) (x4 : List ByteArray) (x6 : Int) (x10 : List Int) (b2 : Ty_cluster_Step.den) (b14 : Ty_cluster_Step.den) : Option (Ty_cluster_Step.den × Bool) := runC Alg.std G_althingref21_kinds T Tryz.f23 althingref21_Step.cuts althingref21_Step.r 29 althingref21_Step.s29 k ((), x4, x6, x10, (), b2, b14, ())
noncomputable def althingref21_Step.c32 (k : Nat) (x6 : Int) (x10 : List Int) (b2 : Ty_cluster_Step.den) (b14 : Ty_cluster_Step.den) : Option (Ty_cluster_Step.den × Bool) := runC Alg.std G_althingref21_kinds T Tryz.f23 althingref21_Step.cuts althingref21_Step.r 32 althingref21_Step.s32 k ((), x6, x10, (), b2, b14, ())
noncomputable def althingref21_Step.c33 (k : Nat) (x6 : Int) (x10 : List Int) (b2 : Ty_cluster_Step.den) (b14 : Ty_cluster_Step.den) : Option (Ty_cluster_Step.den × Bool) := runC Alg.std G_althingref21_kinds T Tryz.f23 althingref21_Step.cuts althingref21_Step.r 33 althingref21_Step.s33 k ((), x6, x10, (), b2, b14, ())
noncomputable def althingref21_Step.c35 (k : Nat) (x6 : Int) (x10 : List Int) (b2 : Ty_cluster_Step.den) (b14 : Ty_cluster_Step.den) : Option (Ty_cluster_Step.den × Bool) := runC Alg.std G_althingref21_kinds T Tryz.f23 althingref21_Step.cuts althingref21_Step.r 35 althingref21_Step.s35 k ((), x6, x10, (), b2, b14, ())
noncomputable def althingref21_Step.c37 (k : Nat) (x6 : Int) (x10 : List Int) (b2 : Ty_cluster_Step.den) (b14 : Ty_cluster_Step.den) : Option (Ty_cluster_Step.den × Bool) := runC Alg.std G_althingref21_kinds T Tryz.f23 althingref21_Step.cuts althingref21_Step.r 37 althingref21_Step.s37 k ((), x6, x10, (), b2, b14, ())
noncomputable def althingref21_Step.c39 (k : Nat) (x6 : Int) (x10 : List Int) (b2 : Ty_cluster_Step.den) (b14 : Ty_cluster_Step.den) : Option (Ty_cluster_Step.den × Bool) := runC Alg.std G_althingref21_kinds T Tryz.f23 althingref21_Step.cuts althingref21_Step.r 39 althingref21_Step.s39 k ((), x6, x10, (), b2, b14, ())
noncomputable def althingref21_Step.c41 (k : Nat) (x6 : Int) (x10 : List Int) (b2 : Ty_cluster_Step.den) (b14 : Ty_cluster_Step.den) : Option (Ty_cluster_Step.den × Bool) := runC Alg.std G_althingref21_kinds T Tryz.f23 althingref21_Step.cuts althingref21_Step.r 41 althingref21_Step.s41 k ((), x6, x10, (), b2, b14, ())
noncomputable def G_althingref21_Step (k : Nat) : Gam := ins 23 (.pu althingref21_Step.ps althingref21_Step.r (althingref21_Step k)) (G_althingref21_kinds k)
theorem ok_althingref21_Step : GOk Tryz.prog G_althingref21_Step := ok_althingref21_kinds.ins fun k => by rw [show althingref21_Step k = althingref21_Step.raw k from congrFun (sealed_eq althingref21_Step.raw) k]; exact runF_ok tabOk ok_althingref21_kinds mix Tryz.func23 Tryz.call23 althingref21_Step.cuts althingref21_Step.ps althingref21_Step.r (by rw [Tryz.ntmps23]; decide) k
def althingref21_Parse.s10 : List CK := [.ptr 2 2 Ty_cluster_Config, .ptr 5 5 Ty_cluster_Config, .tmp 6 (.sl 9 .str), .tmp 7 Ty.i64, .ptr 8 8 Ty_cluster_Config, .tmp 9 (.sl 9 .str), .own 10 3 Ty.i64, .tmp 11 Ty.i64, .box 2 Ty_cluster_Config [], .box 5 Ty_cluster_Config [], .box 8 Ty_cluster_Config []]
def althingref21_Parse.s17 : List CK := [.ptr 2 2 Ty_cluster_Config, .ptr 5 5 Ty_cluster_Config, .tmp 6 (.sl 9 .str), .tmp 7 Ty.i64, .ptr 8 8 Ty_cluster_Config, .own 10 3 Ty.i64, .box 2 Ty_cluster_Config [], .box 5 Ty_cluster_Config [], .box 8 Ty_cluster_Config []]
def althingref21_Parse.s19 : List CK := [.ptr 2 2 Ty_cluster_Config, .ptr 5 5 Ty_cluster_Config, .tmp 6 (.sl 9 .str), .tmp 7 Ty.i64, .ptr 8 8 Ty_cluster_Config, .tmp 14 .bool, .box 2 Ty_cluster_Config [], .box 5 Ty_cluster_Config [], .box 8 Ty_cluster_Config []]
def althingref21_Parse.s24 : List CK := [.ptr 2 2 Ty_cluster_Config, .tmp 6 (.sl 9 .str), .tmp 7 Ty.i64, .ptr 8 8 Ty_cluster_Config, .own 15 63 Ty_cluster_Step, .tmp 16 Ty.i64, .box 2 Ty_cluster_Config [], .box 8 Ty_cluster_Config []]
def althingref21_Parse.cuts : List (Nat × List CK) := [(10, althingref21_Parse.s10), (17, althingref21_Parse.s17), (19, althingref21_Parse.s19), (24, althingref21_Parse.s24)]
abbrev althingref21_Parse.ps : List PK := [.val .str]
abbrev althingref21_Parse.r : Ty := (.tup (.pair Ty_cluster_Config (.pair (.sl 63 Ty_cluster_Step) Ty.i64)))
noncomputable def althingref21_Parse.raw (k : Nat) (a0 : ByteArray) : Option (Ty_cluster_Config.den × (List Ty_cluster_Step.den) × Int) := runF Alg.std G_althingref21_Step T Tryz.f7 althingref21_Parse.cuts althingref21_Parse.ps althingref21_Parse.r k a0
noncomputable def althingref21_Parse (k : Nat) (a0 : ByteArray) : Option (Ty_cluster_Config.den × (List Ty_cluster_Step.den) × Int) := sealed althingref21_Parse.raw k a0
theorem althingref21_Parse_raw (k : Nat) (a0 : ByteArray) : althingref21_Parse k a0 = althingref21_Parse.raw k a0 := by unfold althingref21_Parse; rw [sealed_eq]
noncomputable def althingref21_Parse.c10 (k : Nat) (x6 : List ByteArray) (x7 : Int) (x9 : List ByteArray) (x10 : List Int) (x11 : Int) (b2 : Ty_cluster_Config.den) (b5 : Ty_cluster_Config.den) (b8 : Ty_cluster_Config.den) : Option (Ty_cluster_Config.den × (List Ty_cluster_Step.den) × Int) := runC Alg.std G_althingref21_Step T Tryz.f7 althingref21_Parse.cuts althingref21_Parse.r 10 althingref21_Parse.s10 k ((), (), x6, x7, (), x9, x10, x11, b2, b5, b8, ())
noncomputable def althingref21_Parse.c17 (k : Nat) (x6 : List ByteArray) (x7 : Int) (x10 : List Int) (b2 : Ty_cluster_Config.den) (b5 : Ty_cluster_Config.den) (b8 : Ty_cluster_Config.den) : Option (Ty_cluster_Config.den × (List Ty_cluster_Step.den) × Int) := runC Alg.std G_althingref21_Step T Tryz.f7 althingref21_Parse.cuts althingref21_Parse.r 17 althingref21_Parse.s17 k ((), (), x6, x7, (), x10, b2, b5, b8, ())
noncomputable def althingref21_Parse.c19 (k : Nat) (x6 : List ByteArray) (x7 : Int) (x14 : Bool) (b2 : Ty_cluster_Config.den) (b5 : Ty_cluster_Config.den) (b8 : Ty_cluster_Config.den) : Option (Ty_cluster_Config.den × (List Ty_cluster_Step.den) × Int) := runC Alg.std G_althingref21_Step T Tryz.f7 althingref21_Parse.cuts althingref21_Parse.r 19 althingref21_Parse.s19 k ((), (), x6, x7, (), x14, b2, b5, b8, ())
noncomputable def althingref21_Parse.c24 (k : Nat) (x6 : List ByteArray) (x7 : Int) (x15 : List Ty_cluster_Step.den) (x16 : Int) (b2 : Ty_cluster_Config.den) (b8 : Ty_cluster_Config.den) : Option (Ty_cluster_Config.den × (List Ty_cluster_Step.den) × Int) := runC Alg.std G_althingref21_Step T Tryz.f7 althingref21_Parse.cuts althingref21_Parse.r 24 althingref21_Parse.s24 k ((), x6, x7, (), x15, x16, b2, b8, ())
noncomputable def G_althingref21_Parse (k : Nat) : Gam := ins 7 (.pu althingref21_Parse.ps althingref21_Parse.r (althingref21_Parse k)) (G_althingref21_Step k)
theorem ok_althingref21_Parse : GOk Tryz.prog G_althingref21_Parse := ok_althingref21_Step.ins fun k => by rw [show althingref21_Parse k = althingref21_Parse.raw k from congrFun (sealed_eq althingref21_Parse.raw) k]; exact runF_ok tabOk ok_althingref21_Step mix Tryz.func7 Tryz.call7 althingref21_Parse.cuts althingref21_Parse.ps althingref21_Parse.r (by rw [Tryz.ntmps7]; decide) k
def althinglaw20_Given.cuts : List (Nat × List CK) := []
abbrev althinglaw20_Given.ps : List PK := [.val Ty_cluster_Step]
abbrev althinglaw20_Given.r : Ty := Ty_cluster_Step
noncomputable def althinglaw20_Given.raw (k : Nat) (a0 : Ty_cluster_Step.den) : Option Ty_cluster_Step.den := runF Alg.std G_althingref21_Parse T Tryz.f24 althinglaw20_Given.cuts althinglaw20_Given.ps althinglaw20_Given.r k a0
noncomputable def althinglaw20_Given (k : Nat) (a0 : Ty_cluster_Step.den) : Option Ty_cluster_Step.den := sealed althinglaw20_Given.raw k a0
theorem althinglaw20_Given_raw (k : Nat) (a0 : Ty_cluster_Step.den) : althinglaw20_Given k a0 = althinglaw20_Given.raw k a0 := by unfold althinglaw20_Given; rw [sealed_eq]
noncomputable def G_althinglaw20_Given (k : Nat) : Gam := ins 24 (.pu althinglaw20_Given.ps althinglaw20_Given.r (althinglaw20_Given k)) (G_althingref21_Parse k)
theorem ok_althinglaw20_Given : GOk Tryz.prog G_althinglaw20_Given := ok_althingref21_Parse.ins fun k => by rw [show althinglaw20_Given k = althinglaw20_Given.raw k from congrFun (sealed_eq althinglaw20_Given.raw) k]; exact runF_ok tabOk ok_althingref21_Parse mix Tryz.func24 Tryz.call24 althinglaw20_Given.cuts althinglaw20_Given.ps althinglaw20_Given.r (by rw [Tryz.ntmps24]; decide) k
def althinglaw21_steps.s4 : List CK := [.tmp 0 (.sl 40 Ty_cluster_Step), .tmp 1 (.sl 63 Ty_cluster_Step), .tmp 12 Ty.i64, .tmp 13 Ty.i64]
def althinglaw21_steps.cuts : List (Nat × List CK) := [(4, althinglaw21_steps.s4)]
abbrev althinglaw21_steps.ps : List PK := [.val (.sl 40 Ty_cluster_Step), .val (.sl 63 Ty_cluster_Step)]
abbrev althinglaw21_steps.r : Ty := .bool
noncomputable def althinglaw21_steps.raw (k : Nat) (a0 : List Ty_cluster_Step.den) (a1 : List Ty_cluster_Step.den) : Option Bool := runF Alg.std G_althinglaw20_Given T Tryz.f8 althinglaw21_steps.cuts althinglaw21_steps.ps althinglaw21_steps.r k a0 a1
noncomputable def althinglaw21_steps (k : Nat) (a0 : List Ty_cluster_Step.den) (a1 : List Ty_cluster_Step.den) : Option Bool := sealed althinglaw21_steps.raw k a0 a1
theorem althinglaw21_steps_raw (k : Nat) (a0 : List Ty_cluster_Step.den) (a1 : List Ty_cluster_Step.den) : althinglaw21_steps k a0 a1 = althinglaw21_steps.raw k a0 a1 := by unfold althinglaw21_steps; rw [sealed_eq]
noncomputable def althinglaw21_steps.c4 (k : Nat) (x0 : List Ty_cluster_Step.den) (x1 : List Ty_cluster_Step.den) (x12 : Int) (x13 : Int) : Option Bool := runC Alg.std G_althinglaw20_Given T Tryz.f8 althinglaw21_steps.cuts althinglaw21_steps.r 4 althinglaw21_steps.s4 k (x0, x1, x12, x13, ())
noncomputable def G_althinglaw21_steps (k : Nat) : Gam := ins 8 (.pu althinglaw21_steps.ps althinglaw21_steps.r (althinglaw21_steps k)) (G_althinglaw20_Given k)
theorem ok_althinglaw21_steps : GOk Tryz.prog G_althinglaw21_steps := ok_althinglaw20_Given.ins fun k => by rw [show althinglaw21_steps k = althinglaw21_steps.raw k from congrFun (sealed_eq althinglaw21_steps.raw) k]; exact runF_ok tabOk ok_althinglaw20_Given mix Tryz.func8 Tryz.call8 althinglaw21_steps.cuts althinglaw21_steps.ps althinglaw21_steps.r (by rw [Tryz.ntmps8]; decide) k
def althinglaw21_ScriptParses.s3 : List CK := [.tmp 0 .str]
def althinglaw21_ScriptParses.cuts : List (Nat × List CK) := [(3, althinglaw21_ScriptParses.s3)]
abbrev althinglaw21_ScriptParses.ps : List PK := [.val .str]
abbrev althinglaw21_ScriptParses.r : Ty := .bool
noncomputable def althinglaw21_ScriptParses.raw (k : Nat) (a0 : ByteArray) : Option Bool := runF Alg.std G_althinglaw21_steps T Tryz.f3 althinglaw21_ScriptParses.cuts althinglaw21_ScriptParses.ps althinglaw21_ScriptParses.r k a0
noncomputable def althinglaw21_ScriptParses (k : Nat) (a0 : ByteArray) : Option Bool := sealed althinglaw21_ScriptParses.raw k a0
theorem althinglaw21_ScriptParses_raw (k : Nat) (a0 : ByteArray) : althinglaw21_ScriptParses k a0 = althinglaw21_ScriptParses.raw k a0 := by unfold althinglaw21_ScriptParses; rw [sealed_eq]
noncomputable def althinglaw21_ScriptParses.c3 (k : Nat) (x0 : ByteArray) : Option Bool := runC Alg.std G_althinglaw21_steps T Tryz.f3 althinglaw21_ScriptParses.cuts althinglaw21_ScriptParses.r 3 althinglaw21_ScriptParses.s3 k (x0, ())
noncomputable def G_althinglaw21_ScriptParses (k : Nat) : Gam := ins 3 (.pu althinglaw21_ScriptParses.ps althinglaw21_ScriptParses.r (althinglaw21_ScriptParses k)) (G_althinglaw21_steps k)
theorem ok_althinglaw21_ScriptParses : GOk Tryz.prog G_althinglaw21_ScriptParses := ok_althinglaw21_steps.ins fun k => by rw [show althinglaw21_ScriptParses k = althinglaw21_ScriptParses.raw k from congrFun (sealed_eq althinglaw21_ScriptParses.raw) k]; exact runF_ok tabOk ok_althinglaw21_steps mix Tryz.func3 Tryz.call3 althinglaw21_ScriptParses.cuts althinglaw21_ScriptParses.ps althinglaw21_ScriptParses.r (by rw [Tryz.ntmps3]; decide) k
end Go.Proofs.YtigimlfelogdlaaGreatDoor.V
end
section
set_option maxHeartbeats 4000000
set_option maxRecDepth 100000
namespace Go.Proofs.YtigimlfelogdlaaGreatDoor.V
open Go Go.Vm
theorem althinglaw21_awake_eq (k) : althinglaw21_awake k  = ((script_Parse k (⟨#[49, 32, 49, 32, 49, 32, 57, 57, 57, 57, 32, 57, 10, 98, 32, 48, 10, 119, 32, 48, 32, 97, 32, 120, 10, 99, 32, 48]⟩ : ByteArray)).bind fun r0 => (bif (r0.1.2.2.2.1 == 9999) then (bif ((r0.2.1.length : Int) == 3) then (bif (r0.2.2 == 0) then (bif (inI 1 r0.2.1.length) then (bif (decide ((r0.2.1.getD (Int.toNat 1) (Ty.zero Ty_cluster_Step)).2.2.2.2.2.2.2.1 = (⟨#[97]⟩ : ByteArray))) then ((script_Rune k 13).bind fun r1 => (some (r1 == 8594))) else (some false)) else none) else (some false)) else (some false)) else (some false))) := (althinglaw21_awake_raw k ).trans (by kernel_rfl)
theorem althingref21_split_eq (k) (a0) (a1) : althingref21_split k a0 a1 = (althingref21_split.c3 k a0 a1 [(⟨#[]⟩ : ByteArray)] 0) := (althingref21_split_raw k a0 a1).trans (by kernel_rfl)
theorem althingref21_split.c3_eq (k) (x0) (x1) (x5) (x6) : althingref21_split.c3 (k + 1) x0 x1 x5 x6 = (bif (decide (x6 < (x0.size : Int))) then (bif (inI x6 x0.size) then (bif ((strAt x0 x6) == x1) then (bif (decide ((x5.length + 1) < 4294967296)) then (althingref21_split.c3 k x0 x1 (x5 ++ [(⟨#[]⟩ : ByteArray)]) (IntKind.wrap IntKind.i64 (x6 + 1))) else none) else (bif (inI (IntKind.wrap IntKind.i64 ((x5.length : Int) - 1)) x5.length) then (bif (inI (IntKind.wrap IntKind.i64 ((x5.length : Int) - 1)) x5.length) then (bif (((decide (0 ≤ x6)) && (decide (x6 ≤ (IntKind.wrap IntKind.i64 (x6 + 1))))) && (decide ((IntKind.wrap IntKind.i64 (x6 + 1)) ≤ (x0.size : Int)))) then (bif (decide (((x5.getD (Int.toNat (IntKind.wrap IntKind.i64 ((x5.length : Int) - 1))) (⟨#[]⟩ : ByteArray)).size + (ByteArray.extract x0 (Int.toNat x6) (Int.toNat (IntKind.wrap IntKind.i64 (x6 + 1)))).size) < 4294967296)) then (bif (inI (IntKind.wrap IntKind.i64 ((x5.length : Int) - 1)) x5.length) then (bif (inI (IntKind.wrap IntKind.i64 ((x5.length : Int) - 1)) x5.length) then (althingref21_split.c3 k x0 x1 (x5.set (Int.toNat (IntKind.wrap IntKind.i64 ((x5.length : Int) - 1))) ((x5.getD (Int.toNat (IntKind.wrap IntKind.i64 ((x5.length : Int) - 1))) (⟨#[]⟩ : ByteArray)) ++ (ByteArray.extract x0 (Int.toNat x6) (Int.toNat (IntKind.wrap IntKind.i64 (x6 + 1)))))) (IntKind.wrap IntKind.i64 (x6 + 1))) else none) else none) else none) else none) else none) else none)) else none) else (some x5)) := by kernel_rfl
theorem althingref21_Parts_eq (k) (a0) : althingref21_Parts k a0 = ((althingref21_split k a0 32).bind fun r0 => (some r0)) := (althingref21_Parts_raw k a0).trans (by kernel_rfl)
theorem althingref21_Number_eq (k) (a0) : althingref21_Number k a0 = (bif ((a0.size : Int) == 0) then (some (0, false)) else (bif (decide ((a0.size : Int) > 9)) then (some (0, false)) else (althingref21_Number.c5 k a0 0 0))) := (althingref21_Number_raw k a0).trans (by kernel_rfl)
theorem althingref21_Number.c5_eq (k) (x0) (x4) (x5) : althingref21_Number.c5 (k + 1) x0 x4 x5 = (bif (decide (x5 < (x0.size : Int))) then (bif (inI x5 x0.size) then (bif (decide ((strAt x0 x5) < 48)) then (some (0, false)) else (bif (inI x5 x0.size) then (bif (decide ((strAt x0 x5) > 57)) then (some (0, false)) else (althingref21_Number.c9 k x0 x4 x5)) else none)) else none) else (some (x4, true))) := by kernel_rfl
theorem althingref21_Number.c9_eq (k) (x0) (x4) (x5) : althingref21_Number.c9 (k + 1) x0 x4 x5 = (bif (inI x5 x0.size) then (althingref21_Number.c5 k x0 (IntKind.wrap IntKind.i64 ((IntKind.wrap IntKind.i64 ((IntKind.wrap IntKind.i64 (x4 * 10)) + (IntKind.wrap IntKind.i64 (strAt x0 x5)))) - 48)) (IntKind.wrap IntKind.i64 (x5 + 1))) else none) := by kernel_rfl
theorem althingref20_Right_eq (k) (a0) : althingref20_Right k a0 = (bif (decide (a0.1 ≥ 1)) then (bif (decide (a0.1 ≤ 3)) then (bif (decide (a0.2.1 ≥ 1)) then (bif (decide (a0.2.1 ≤ 4)) then (bif (decide (a0.2.2.1 ≥ 1)) then (bif (decide (a0.2.2.1 ≤ 4)) then (bif (decide (a0.2.2.2.1 ≥ 0)) then (bif (decide (a0.2.2.2.1 ≤ 1048576)) then (bif (decide (a0.2.2.2.2 ≥ 1)) then (some (decide (a0.2.2.2.2 ≤ 256))) else (some false)) else (some false)) else (some false)) else (some false)) else (some false)) else (some false)) else (some false)) else (some false)) else (some false)) := (althingref20_Right_raw k a0).trans (by kernel_rfl)
theorem althingref04_tail_eq (k) (a0) (a1) (a2) (a3) : althingref04_tail k a0 a1 a2 a3 = (bif (decide (a1 < (a0.size : Int))) then (bif (inI a1 a0.size) then (bif (decide ((IntKind.wrap IntKind.i64 (strAt a0 a1)) ≥ a2)) then (bif (inI a1 a0.size) then (some (decide ((IntKind.wrap IntKind.i64 (strAt a0 a1)) ≤ a3))) else none) else (some false)) else none) else (some false)) := (althingref04_tail_raw k a0 a1 a2 a3).trans (by kernel_rfl)
theorem althingref04_first_eq (k) (a0) : althingref04_first k a0 = (bif (inI 0 a0.size) then (bif (decide ((IntKind.wrap IntKind.i64 (strAt a0 0)) < 128)) then (some ((IntKind.wrap IntKind.i64 (strAt a0 0)), 1)) else (bif (decide ((IntKind.wrap IntKind.i64 (strAt a0 0)) ≥ 194)) then (bif (decide ((IntKind.wrap IntKind.i64 (strAt a0 0)) ≤ 223)) then ((althingref04_tail k a0 1 128 191).bind fun r0 => (bif r0 then (althingref04_first.c5 k a0 (IntKind.wrap IntKind.i64 (strAt a0 0))) else (althingref04_first.c6 k a0 (IntKind.wrap IntKind.i64 (strAt a0 0))))) else (althingref04_first.c6 k a0 (IntKind.wrap IntKind.i64 (strAt a0 0)))) else (althingref04_first.c6 k a0 (IntKind.wrap IntKind.i64 (strAt a0 0))))) else none) := (althingref04_first_raw k a0).trans (by kernel_rfl)
theorem althingref04_first.c5_eq (k) (x0) (x4) : althingref04_first.c5 (k + 1) x0 x4 = (bif (inI 1 x0.size) then (some ((IntKind.wrap IntKind.i64 ((IntKind.wrap IntKind.i64 ((IntKind.wrap IntKind.i64 ((IntKind.wrap IntKind.i64 (x4 - 192)) * 64)) + (IntKind.wrap IntKind.i64 (strAt x0 1)))) - 128)), 2)) else none) := by kernel_rfl
theorem althingref04_first.c6_eq (k) (x0) (x4) : althingref04_first.c6 (k + 1) x0 x4 = (bif (x4 == 224) then (bif (x4 == 237) then (althingref04_first.c12 k x0 x4 160 159) else (althingref04_first.c12 k x0 x4 160 191)) else (bif (x4 == 237) then (althingref04_first.c12 k x0 x4 128 159) else (althingref04_first.c12 k x0 x4 128 191))) := by kernel_rfl
theorem althingref04_first.c12_eq (k) (x0) (x4) (x5) (x6) : althingref04_first.c12 (k + 1) x0 x4 x5 x6 = (bif (decide (x4 ≥ 224)) then (bif (decide (x4 ≤ 239)) then ((althingref04_tail k x0 1 x5 x6).bind fun r0 => (bif r0 then ((althingref04_tail k x0 2 128 191).bind fun r1 => (bif r1 then (althingref04_first.c13 k x0 x4) else (althingref04_first.c14 k x0 x4))) else (althingref04_first.c14 k x0 x4))) else (althingref04_first.c14 k x0 x4)) else (althingref04_first.c14 k x0 x4)) := by kernel_rfl
theorem althingref04_first.c13_eq (k) (x0) (x4) : althingref04_first.c13 (k + 1) x0 x4 = (bif (inI 1 x0.size) then (bif (inI 2 x0.size) then (some ((IntKind.wrap IntKind.i64 ((IntKind.wrap IntKind.i64 ((IntKind.wrap IntKind.i64 ((IntKind.wrap IntKind.i64 ((IntKind.wrap IntKind.i64 (x4 - 224)) * 4096)) + (IntKind.wrap IntKind.i64 ((IntKind.wrap IntKind.i64 ((IntKind.wrap IntKind.i64 (strAt x0 1)) - 128)) * 64)))) + (IntKind.wrap IntKind.i64 (strAt x0 2)))) - 128)), 3)) else none) else none) := by kernel_rfl
theorem althingref04_first.c14_eq (k) (x0) (x4) : althingref04_first.c14 (k + 1) x0 x4 = (bif (x4 == 240) then (bif (x4 == 244) then (althingref04_first.c20 k x0 x4 144 143) else (althingref04_first.c20 k x0 x4 144 191)) else (bif (x4 == 244) then (althingref04_first.c20 k x0 x4 128 143) else (althingref04_first.c20 k x0 x4 128 191))) := by kernel_rfl
theorem althingref04_first.c20_eq (k) (x0) (x4) (x5) (x6) : althingref04_first.c20 (k + 1) x0 x4 x5 x6 = (bif (decide (x4 ≥ 240)) then (bif (decide (x4 ≤ 244)) then ((althingref04_tail k x0 1 x5 x6).bind fun r0 => (bif r0 then ((althingref04_tail k x0 2 128 191).bind fun r1 => (bif r1 then ((althingref04_tail k x0 3 128 191).bind fun r2 => (bif r2 then (althingref04_first.c21 k x0 x4) else (some (65533, 1)))) else (some (65533, 1)))) else (some (65533, 1)))) else (some (65533, 1))) else (some (65533, 1))) := by kernel_rfl
theorem althingref04_first.c21_eq (k) (x0) (x4) : althingref04_first.c21 (k + 1) x0 x4 = (bif (inI 1 x0.size) then (bif (inI 2 x0.size) then (bif (inI 3 x0.size) then (some ((IntKind.wrap IntKind.i64 ((IntKind.wrap IntKind.i64 ((IntKind.wrap IntKind.i64 ((IntKind.wrap IntKind.i64 ((IntKind.wrap IntKind.i64 ((IntKind.wrap IntKind.i64 (x4 - 240)) * 262144)) + (IntKind.wrap IntKind.i64 ((IntKind.wrap IntKind.i64 ((IntKind.wrap IntKind.i64 (strAt x0 1)) - 128)) * 4096)))) + (IntKind.wrap IntKind.i64 ((IntKind.wrap IntKind.i64 ((IntKind.wrap IntKind.i64 (strAt x0 2)) - 128)) * 64)))) + (IntKind.wrap IntKind.i64 (strAt x0 3)))) - 128)), 4)) else none) else none) else none) := by kernel_rfl
theorem althingref04_Runes_eq (k) (a0) : althingref04_Runes k a0 = (althingref04_Runes.c2 k a0 []) := (althingref04_Runes_raw k a0).trans (by kernel_rfl)
theorem althingref04_Runes.c2_eq (k) (x0) (x3) : althingref04_Runes.c2 (k + 1) x0 x3 = (bif (decide ((x0.size : Int) > 0)) then ((althingref04_first k x0).bind fun r0 => (bif (decide ((x3.length + 1) < 4294967296)) then (bif (((decide (0 ≤ r0.2)) && (decide (r0.2 ≤ (x0.size : Int)))) && (decide ((x0.size : Int) ≤ (x0.size : Int)))) then (althingref04_Runes.c2 k (ByteArray.extract x0 (Int.toNat r0.2) (Int.toNat (x0.size : Int))) (x3 ++ [r0.1])) else none) else none)) else (some x3)) := by kernel_rfl
theorem althingref21_Rune_eq (k) (a0) : althingref21_Rune k a0 = (bif (decide (a0 < 1)) then (some 0) else (bif (decide (a0 > 17)) then (some 0) else (althingref21_Rune.c4 k a0 [98, 114, 119, 99, 97, 104, 100, 108, 102, 115, 116, 107, 8594, 10007, 8649, 8224, 8593]))) := (althingref21_Rune_raw k a0).trans (by kernel_rfl)
theorem althingref21_Rune.c4_eq (k) (x0) (x3) : althingref21_Rune.c4 (k + 1) x0 x3 = (bif (inI (IntKind.wrap IntKind.i64 (x0 - 1)) x3.length) then (bif (inI (IntKind.wrap IntKind.i64 (x0 - 1)) x3.length) then (some (x3.getD (Int.toNat (IntKind.wrap IntKind.i64 (x0 - 1))) 0)) else none) else none) := by kernel_rfl
theorem althingref21_kinds_eq (k) (a0) : althingref21_kinds k a0 = (bif (inI (IntKind.wrap IntKind.i64 (a0 - 1)) 17) then (bif (inI (IntKind.wrap IntKind.i64 (a0 - 1)) 17) then (some ([(⟨#[110]⟩ : ByteArray), (⟨#[110, 119, 110]⟩ : ByteArray), (⟨#[110, 119, 119]⟩ : ByteArray), (⟨#[110]⟩ : ByteArray), (⟨#[110, 110, 110]⟩ : ByteArray), (⟨#[110, 110, 110]⟩ : ByteArray), (⟨#[110, 110, 110]⟩ : ByteArray), (⟨#[110, 110, 110]⟩ : ByteArray), (⟨#[110, 110]⟩ : ByteArray), (⟨#[110, 110]⟩ : ByteArray), (⟨#[110, 110]⟩ : ByteArray), (⟨#[110, 110]⟩ : ByteArray), (⟨#[110, 110]⟩ : ByteArray), (⟨#[110, 110]⟩ : ByteArray), (⟨#[110, 110]⟩ : ByteArray), (⟨#[110, 110, 110, 110, 110]⟩ : ByteArray), (⟨#[110, 110]⟩ : ByteArray)].getD (Int.toNat (IntKind.wrap IntKind.i64 (a0 - 1))) (⟨#[]⟩ : ByteArray))) else none) else none) := (althingref21_kinds_raw k a0).trans (by kernel_rfl)
theorem althingref21_Step_eq (k) (a0) : althingref21_Step k a0 = ((althingref21_Parts k a0).bind fun r0 => (bif (inI 0 r0.length) then ((althingref04_Runes k (r0.getD (Int.toNat 0) (⟨#[]⟩ : ByteArray))).bind fun r1 => (althingref21_Step.c5 k r0 r1 0 1 (Ty.zero Ty_cluster_Step))) else none)) := (althingref21_Step_raw k a0).trans (by kernel_rfl)
theorem althingref21_Step.c5_eq (k) (x4) (x5) (x6) (x7) (b2) : althingref21_Step.c5 (k + 1) x4 x5 x6 x7 b2 = (bif (decide (x7 ≤ 17)) then (bif ((x5.length : Int) == 1) then (bif (inI 0 x5.length) then ((althingref21_Rune k x7).bind fun r0 => (bif ((x5.getD (Int.toNat 0) 0) == r0) then (althingref21_Step.c6 k x4 x5 x7 x7 b2) else (althingref21_Step.c6 k x4 x5 x6 x7 b2))) else none) else (althingref21_Step.c6 k x4 x5 x6 x7 b2)) else (bif (x6 == 0) then (some ((Ty.zero (Ty.pair Ty.i64 (Ty.pair Ty.i64 (Ty.pair Ty.i64 (Ty.pair Ty.i64 (Ty.pair Ty.i64 (Ty.pair Ty.i64 (Ty.pair (Ty.int IntKind.u8) (Ty.pair Ty.str Ty.str))))))))), false)) else ((althingref21_kinds k x6).bind fun r0 => (bif ((x4.length : Int) != (IntKind.wrap IntKind.i64 ((r0.size : Int) + 1))) then (some ((Ty.zero (Ty.pair Ty.i64 (Ty.pair Ty.i64 (Ty.pair Ty.i64 (Ty.pair Ty.i64 (Ty.pair Ty.i64 (Ty.pair Ty.i64 (Ty.pair (Ty.int IntKind.u8) (Ty.pair Ty.str Ty.str))))))))), false)) else (althingref21_Step.c17 k x4 x6 r0 [] 0 b2 (Ty.zero (Ty.pair Ty.i64 (Ty.pair Ty.i64 (Ty.pair Ty.i64 (Ty.pair Ty.i64 (Ty.pair Ty.i64 (Ty.pair Ty.i64 (Ty.pair (Ty.int IntKind.u8) (Ty.pair Ty.str Ty.str)))))))))))))) := by kernel_rfl
theorem althingref21_Step.c6_eq (k) (x4) (x5) (x6) (x7) (b2) : althingref21_Step.c6 (k + 1) x4 x5 x6 x7 b2 = (althingref21_Step.c5 k x4 x5 x6 (IntKind.wrap IntKind.i64 (x7 + 1)) b2) := by kernel_rfl
theorem althingref21_Step.c17_eq (k) (x4) (x6) (x9) (x10) (x11) (b2) (b8) : althingref21_Step.c17 (k + 1) x4 x6 x9 x10 x11 b2 b8 = (bif (decide (x11 < (x9.size : Int))) then (bif (inI (IntKind.wrap IntKind.i64 (x11 + 1)) x4.length) then ((althingref21_Number k (x4.getD (Int.toNat (IntKind.wrap IntKind.i64 (x11 + 1))) (⟨#[]⟩ : ByteArray))).bind fun r0 => (bif (inI x11 x9.size) then (bif ((strAt x9 x11) == 110) then (bif (!r0.2) then (some (b8, false)) else (althingref21_Step.c22 k x4 x6 x9 x10 x11 r0.1 b2 b8)) else (althingref21_Step.c22 k x4 x6 x9 x10 x11 r0.1 b2 b8)) else none)) else none) else (bif (decide (x6 ≤ 8)) then (bif (inI 0 x10.length) then (bif (inI 0 x10.length) then (althingref21_Step.c26 k x4 x6 x10 b2 (x6, ((x10.getD (Int.toNat 0) 0), (Ty.zero (Ty.pair Ty.i64 (Ty.pair Ty.i64 (Ty.pair Ty.i64 (Ty.pair Ty.i64 (Ty.pair (Ty.int IntKind.u8) (Ty.pair Ty.str Ty.str)))))))))) else none) else none) else (althingref21_Step.c26 k x4 x6 x10 b2 (x6, (Ty.zero (Ty.pair Ty.i64 (Ty.pair Ty.i64 (Ty.pair Ty.i64 (Ty.pair Ty.i64 (Ty.pair Ty.i64 (Ty.pair (Ty.int IntKind.u8) (Ty.pair Ty.str Ty.str)))))))))))) := by kernel_rfl
theorem althingref21_Step.c22_eq (k) (x4) (x6) (x9) (x10) (x11) (x12) (b2) (b8) : althingref21_Step.c22 (k + 1) x4 x6 x9 x10 x11 x12 b2 b8 = (bif (decide ((x10.length + 1) < 4294967296)) then (althingref21_Step.c17 k x4 x6 x9 (x10 ++ [x12]) (IntKind.wrap IntKind.i64 (x11 + 1)) b2 b8) else none) := by kernel_rfl
theorem althingref21_Step.c26_eq (k) (x4) (x6) (x10) (b2) (b14) : althingref21_Step.c26 (k + 1) x4 x6 x10 b2 b14 = (bif (x6 == 2) then (bif (inI 2 x4.length) then (bif (inI 2 x10.length) then (bif (inI 2 x10.length) then (althingref21_Step.c29 k x4 x6 x10 b2 (b14.1, (b14.2.1, (b14.2.2.1, ((x10.getD (Int.toNat 2) 0), (b14.2.2.2.2.1, (b14.2.2.2.2.2.1, (b14.2.2.2.2.2.2.1, ((x4.getD (Int.toNat 2) (⟨#[]⟩ : ByteArray)), b14.2.2.2.2.2.2.2.2))))))))) else none) else none) else none) else (althingref21_Step.c29 k x4 x6 x10 b2 b14)) := by kernel_rfl
theorem althingref21_Step.c29_eq (k) (x4) (x6) (x10) (b2) (b14) : althingref21_Step.c29 (k + 1) x4 x6 x10 b2 b14 = (bif (x6 == 3) then (bif (inI 2 x4.length) then (bif (inI 3 x4.length) then (althingref21_Step.c32 k x6 x10 b2 (b14.1, (b14.2.1, (b14.2.2.1, (b14.2.2.2.1, (b14.2.2.2.2.1, (b14.2.2.2.2.2.1, (b14.2.2.2.2.2.2.1, ((x4.getD (Int.toNat 2) (⟨#[]⟩ : ByteArray)), (x4.getD (Int.toNat 3) (⟨#[]⟩ : ByteArray))))))))))) else none) else none) else (althingref21_Step.c32 k x6 x10 b2 b14)) := by kernel_rfl
theorem althingref21_Step.c32_eq (k) (x6) (x10) (b2) (b14) : althingref21_Step.c32 (k + 1) x6 x10 b2 b14 = (bif (decide (x6 ≥ 5)) then (bif (decide (x6 ≤ 8)) then (althingref21_Step.c33 k x6 x10 b2 b14) else (althingref21_Step.c35 k x6 x10 b2 b14)) else (althingref21_Step.c35 k x6 x10 b2 b14)) := by kernel_rfl
theorem althingref21_Step.c33_eq (k) (x6) (x10) (b2) (b14) : althingref21_Step.c33 (k + 1) x6 x10 b2 b14 = (bif (inI 1 x10.length) then (bif (inI 1 x10.length) then (bif (inI 2 x10.length) then (bif (inI 2 x10.length) then (althingref21_Step.c35 k x6 x10 b2 (b14.1, (b14.2.1, ((x10.getD (Int.toNat 1) 0), ((x10.getD (Int.toNat 2) 0), b14.2.2.2.2))))) else none) else none) else none) else none) := by kernel_rfl
theorem althingref21_Step.c35_eq (k) (x6) (x10) (b2) (b14) : althingref21_Step.c35 (k + 1) x6 x10 b2 b14 = (bif (decide (x6 ≥ 9)) then (bif (inI 0 x10.length) then (bif (inI 0 x10.length) then (althingref21_Step.c37 k x6 x10 b2 (b14.1, (b14.2.1, ((x10.getD (Int.toNat 0) 0), b14.2.2.2)))) else none) else none) else (althingref21_Step.c37 k x6 x10 b2 b14)) := by kernel_rfl
theorem althingref21_Step.c37_eq (k) (x6) (x10) (b2) (b14) : althingref21_Step.c37 (k + 1) x6 x10 b2 b14 = (bif (decide (x6 ≥ 13)) then (bif (decide (x6 ≤ 15)) then (bif (inI 1 x10.length) then (bif (inI 1 x10.length) then (althingref21_Step.c41 k x6 x10 b2 (b14.1, (b14.2.1, (b14.2.2.1, (b14.2.2.2.1, ((x10.getD (Int.toNat 1) 0), b14.2.2.2.2.2)))))) else none) else none) else (althingref21_Step.c39 k x6 x10 b2 b14)) else (althingref21_Step.c39 k x6 x10 b2 b14)) := by kernel_rfl
theorem althingref21_Step.c39_eq (k) (x6) (x10) (b2) (b14) : althingref21_Step.c39 (k + 1) x6 x10 b2 b14 = (bif (decide (x6 ≥ 9)) then (bif (inI 1 x10.length) then (bif (inI 1 x10.length) then (althingref21_Step.c41 k x6 x10 b2 (b14.1, (b14.2.1, (b14.2.2.1, ((x10.getD (Int.toNat 1) 0), b14.2.2.2.2))))) else none) else none) else (althingref21_Step.c41 k x6 x10 b2 b14)) := by kernel_rfl
theorem althingref21_Step.c41_eq (k) (x6) (x10) (b2) (b14) : althingref21_Step.c41 (k + 1) x6 x10 b2 b14 = (bif (x6 == 16) then (bif (inI 2 x10.length) then (bif (inI 2 x10.length) then (bif (inI 3 x10.length) then (bif (inI 3 x10.length) then (bif (inI 4 x10.length) then (bif (inI 4 x10.length) then (some ((b14.1, (b14.2.1, (b14.2.2.1, (b14.2.2.2.1, ((x10.getD (Int.toNat 2) 0), ((x10.getD (Int.toNat 3) 0), ((IntKind.wrap IntKind.u8 (x10.getD (Int.toNat 4) 0)), b14.2.2.2.2.2.2.2))))))), true)) else none) else none) else none) else none) else none) else none) else (some (b14, true))) := by kernel_rfl
theorem althingref21_Parse_eq (k) (a0) : althingref21_Parse k a0 = (bif (decide ((a0.size : Int) > 32768)) then (some ((1, (1, (1, (65536, 256)))), ([], (-1)))) else ((althingref21_split k a0 10).bind fun r0 => (bif (inI 0 r0.length) then ((althingref21_Parts k (r0.getD (Int.toNat 0) (⟨#[]⟩ : ByteArray))).bind fun r1 => (althingref21_Parse.c10 k r0 0 r1 [] 0 (Ty.zero Ty_cluster_Config) (1, (1, (1, (65536, 256)))) (1, (1, (1, (65536, 256)))))) else none))) := (althingref21_Parse_raw k a0).trans (by kernel_rfl)
theorem althingref21_Parse.c10_eq (k) (x6) (x7) (x9) (x10) (x11) (b2) (b5) (b8) : althingref21_Parse.c10 (k + 1) x6 x7 x9 x10 x11 b2 b5 b8 = (bif (decide (x11 < (x9.length : Int))) then (bif (inI x11 x9.length) then ((althingref21_Number k (x9.getD (Int.toNat x11) (⟨#[]⟩ : ByteArray))).bind fun r0 => (bif r0.2 then (bif (decide ((x10.length + 1) < 4294967296)) then (althingref21_Parse.c10 k x6 x7 x9 (x10 ++ [r0.1]) (IntKind.wrap IntKind.i64 (x11 + 1)) b2 b5 b8) else none) else (althingref21_Parse.c10 k x6 x7 x9 x10 (IntKind.wrap IntKind.i64 (x11 + 1)) b2 b5 b8))) else none) else (bif ((x9.length : Int) == 5) then (bif ((x10.length : Int) == 5) then (althingref21_Parse.c17 k x6 x7 x10 b2 b5 b8) else (althingref21_Parse.c19 k x6 x7 false b2 b5 b8)) else (althingref21_Parse.c19 k x6 x7 false b2 b5 b8))) := by kernel_rfl
theorem althingref21_Parse.c17_eq (k) (x6) (x7) (x10) (b2) (b5) (b8) : althingref21_Parse.c17 (k + 1) x6 x7 x10 b2 b5 b8 = (bif (inI 0 x10.length) then (bif (inI 0 x10.length) then (bif (inI 1 x10.length) then (bif (inI 1 x10.length) then (bif (inI 2 x10.length) then (bif (inI 2 x10.length) then (bif (inI 3 x10.length) then (bif (inI 3 x10.length) then (bif (inI 4 x10.length) then (bif (inI 4 x10.length) then ((althingref20_Right k ((x10.getD (Int.toNat 0) 0), ((x10.getD (Int.toNat 1) 0), ((x10.getD (Int.toNat 2) 0), ((x10.getD (Int.toNat 3) 0), (x10.getD (Int.toNat 4) 0)))))).bind fun r0 => (althingref21_Parse.c19 k x6 x7 r0 b2 b5 ((x10.getD (Int.toNat 0) 0), ((x10.getD (Int.toNat 1) 0), ((x10.getD (Int.toNat 2) 0), ((x10.getD (Int.toNat 3) 0), (x10.getD (Int.toNat 4) 0))))))) else none) else none) else none) else none) else none) else none) else none) else none) else none) else none) := by kernel_rfl
theorem althingref21_Parse.c19_eq (k) (x6) (x7) (x14) (b2) (b5) (b8) : althingref21_Parse.c19 (k + 1) x6 x7 x14 b2 b5 b8 = (bif (!x14) then (althingref21_Parse.c24 k x6 1 [] 1 b2 b5) else (althingref21_Parse.c24 k x6 x7 [] 1 b2 b8)) := by kernel_rfl
theorem althingref21_Parse.c24_eq (k) (x6) (x7) (x15) (x16) (b2) (b8) : althingref21_Parse.c24 (k + 1) x6 x7 x15 x16 b2 b8 = (bif (decide (x16 < (x6.length : Int))) then (bif (inI x16 x6.length) then ((althingref21_Step k (x6.getD (Int.toNat x16) (⟨#[]⟩ : ByteArray))).bind fun r0 => (bif r0.2 then (bif (decide ((x15.length + 1) < 4294967296)) then (althingref21_Parse.c24 k x6 x7 (x15 ++ [r0.1]) (IntKind.wrap IntKind.i64 (x16 + 1)) b2 b8) else none) else (althingref21_Parse.c24 k x6 (IntKind.wrap IntKind.i64 (x7 + 1)) x15 (IntKind.wrap IntKind.i64 (x16 + 1)) b2 b8))) else none) else (some (b8, (x15, x7)))) := by kernel_rfl
theorem althinglaw20_Given_eq (k) (a0) : althinglaw20_Given k a0 = (some (a0.1, (a0.2.1, (a0.2.2.1, (a0.2.2.2.1, (a0.2.2.2.2.1, (a0.2.2.2.2.2.1, (a0.2.2.2.2.2.2.1, (a0.2.2.2.2.2.2.2.1, a0.2.2.2.2.2.2.2.2))))))))) := (althinglaw20_Given_raw k a0).trans (by kernel_rfl)
theorem althinglaw21_steps_eq (k) (a0) (a1) : althinglaw21_steps k a0 a1 = (bif ((a0.length : Int) != (a1.length : Int)) then (some false) else (althinglaw21_steps.c4 k a0 a1 (a0.length : Int) 0)) := (althinglaw21_steps_raw k a0 a1).trans (by kernel_rfl)
theorem althinglaw21_steps.c4_eq (k) (x0) (x1) (x12) (x13) : althinglaw21_steps.c4 (k + 1) x0 x1 x12 x13 = (bif (decide (x13 < x12)) then (bif (inI x13 x0.length) then (bif (inI x13 x1.length) then ((althinglaw20_Given k (x1.getD (Int.toNat x13) (Ty.zero Ty_cluster_Step))).bind fun r0 => (bif (!(Ty.beq Ty_cluster_Step (x0.getD (Int.toNat x13) (Ty.zero Ty_cluster_Step)) r0)) then (some false) else (althinglaw21_steps.c4 k x0 x1 x12 (IntKind.wrap IntKind.i64 (x13 + 1))))) else none) else none) else (some true)) := by kernel_rfl
theorem althinglaw21_ScriptParses_eq (k) (a0) : althinglaw21_ScriptParses k a0 = (bif (decide ((a0.size : Int) > 3000)) then (bif (decide ((a0.size : Int) ≤ 32768)) then ((althinglaw21_awake k).bind fun r0 => (some r0)) else (althinglaw21_ScriptParses.c3 k a0)) else (althinglaw21_ScriptParses.c3 k a0)) := (althinglaw21_ScriptParses_raw k a0).trans (by kernel_rfl)
theorem althinglaw21_ScriptParses.c3_eq (k) (x0) : althinglaw21_ScriptParses.c3 (k + 1) x0 = ((script_Parse k x0).bind fun r0 => (bif (decide ((x0.size : Int) > 32768)) then ((script_Run.f k x0).bind fun r1 => (bif (r0.1.2.2.2.2 == 256) then (bif ((r0.2.1.length : Int) == 0) then (bif (r0.2.2 == (-1)) then (bif ((r1.1.length : Int) == 0) then (bif ((r1.2.1.length : Int) == 0) then (bif (r1.2.2 == 15) then ((althinglaw21_awake k).bind fun r2 => (some r2)) else (some false)) else (some false)) else (some false)) else (some false)) else (some false)) else (some false))) else ((althingref21_Parse k x0).bind fun r1 => (bif (Ty.beq Ty_cluster_Config r0.1 (r1.1.1, (r1.1.2.1, (r1.1.2.2.1, (r1.1.2.2.2.1, r1.1.2.2.2.2))))) then ((althinglaw21_steps k r0.2.1 r1.2.1).bind fun r2 => (bif r2 then (bif (r0.2.2 == r1.2.2) then ((althinglaw21_awake k).bind fun r3 => (some r3)) else (some false)) else (some false))) else (some false))))) := by kernel_rfl
end Go.Proofs.YtigimlfelogdlaaGreatDoor.V
end
section
namespace Go.Proofs.YtigimlfelogdlaaGreatDoor.V
open Go Go.Vm
set_option linter.unusedVariables false
set_option linter.unusedSimpArgs false
def runes : List Int := [98, 114, 119, 99, 97, 104, 100, 108, 102, 115, 116, 107, 8594, 10007, 8649, 8224, 8593]
def runeGo (v : Int) : Int → List Int → Int
  | _, [] => 0
  | n, r :: l => bif (n + 1 == v) then r else runeGo v (n + 1) l
def runeOf (v : Int) : Int := runeGo v 0 runes
set_option maxRecDepth 100000 in
theorem rune_loop (k : Nat) (v : Int) : script_Rune.c3 (k + 18) v 0 ((⟨#[98, 114, 119, 99, 97, 104, 100, 108, 102, 115, 116, 107, 226, 134, 146, 226, 156, 151, 226, 135, 137, 226, 128, 160, 226, 134, 145]⟩ : ByteArray), 0) =
    bif ((1 : Int) == v) then some 98 else bif ((2 : Int) == v) then some 114 else bif ((3 : Int) == v) then some 119 else bif ((4 : Int) == v) then some 99 else bif ((5 : Int) == v) then some 97 else bif ((6 : Int) == v) then some 104 else
    bif ((7 : Int) == v) then some 100 else bif ((8 : Int) == v) then some 108 else bif ((9 : Int) == v) then some 102 else bif ((10 : Int) == v) then some 115 else bif ((11 : Int) == v) then some 116 else bif ((12 : Int) == v) then some 107 else
    bif ((13 : Int) == v) then some 8594 else bif ((14 : Int) == v) then some 10007 else bif ((15 : Int) == v) then some 8649 else bif ((16 : Int) == v) then some 8224 else bif ((17 : Int) == v) then some 8593 else some 0 := by kernel_rfl
theorem bif_some {α : Type} (b : Bool) (x y : α) : (bif b then some x else some y) = some (bif b then x else y) := by cases b <;> rfl
theorem script_Rune_is (v : Int) : Ev (fun k => script_Rune k v) (runeOf v) := by
  refine Ev.congr (script_Rune_eq · v) ⟨18, fun k hk => ?_⟩
  obtain ⟨j, rfl⟩ : ∃ j, k = j + 18 := ⟨k - 18, by omega⟩
  refine (rune_loop j v).trans ?_
  simp only [bif_some]
  rfl
theorem runeOf_none {v : Int} (h : v < 1 ∨ v > 17) : runeOf v = 0 := by
  have hn : ∀ i : Int, 1 ≤ i → i ≤ 17 → (i == v) = false := fun i h1 h2 => by
    rw [beq_eq_false_iff_ne]; omega
  unfold runeOf runes
  simp [runeGo, hn]
theorem runeOf_at {v : Nat} (h1 : 1 ≤ v) (h2 : v ≤ 17) : runeOf (v : Int) = runes.getD (v - 1) 0 := by
  have : ∀ v : Fin 18, 1 ≤ v.val → runeOf (v.val : Int) = runes.getD (v.val - 1) 0 := by decide +kernel
  exact this ⟨v, by omega⟩ h1
theorem ref_Rune_is (v : Int) : Ev (fun k => althingref21_Rune k v) (runeOf v) := by
  refine Ev.congr (althingref21_Rune_eq · v) ?_
  by_cases h1 : v < 1
  · rw [runeOf_none (.inl h1)]
    exact Ev.bif_tt (decide_eq_true h1) (Ev.some _)
  · refine Ev.bif_ff (decide_eq_false h1) ?_
    by_cases h2 : v > 17
    · rw [runeOf_none (.inr h2)]
      exact Ev.bif_tt (decide_eq_true h2) (Ev.some _)
    · refine Ev.bif_ff (decide_eq_false h2) (Ev.step (fun k => althingref21_Rune.c4_eq k _ _) ?_)
      obtain ⟨n, rfl⟩ : ∃ n : Nat, v = (n : Int) := ⟨v.toNat, by omega⟩
      have e : IntKind.wrap .i64 ((n : Int) - 1) = ((n - 1 : Nat) : Int) := by rw [wrap_id (by omega) (by omega)]; omega
      rw [e]
      refine Ev.bif_tt (inI_tt (by show n - 1 < 17; omega)) (Ev.bif_tt (inI_tt (by show n - 1 < 17; omega)) ?_)
      rw [Int.toNat_natCast, runeOf_at (by omega) (by omega)]
      exact Ev.some _
theorem runeOf_inj {a b : Int} (h : runeOf a = runeOf b) (h0 : runeOf a ≠ 0) : a = b := by
  have in17 : ∀ v : Int, runeOf v ≠ 0 → ∃ n : Nat, v = (n : Int) ∧ n < 18 := fun v hv => by
    by_cases h : v < 1 ∨ v > 17
    · exact absurd (runeOf_none h) hv
    · exact ⟨v.toNat, by omega, by omega⟩
  obtain ⟨m, rfl, hm⟩ := in17 a h0
  obtain ⟨n, rfl, hn⟩ := in17 b (by rw [← h]; exact h0)
  have : ∀ m n : Fin 18, runeOf (m.val : Int) = runeOf (n.val : Int) → runeOf (m.val : Int) ≠ 0 → m = n := by decide +kernel
  have := this ⟨m, hm⟩ ⟨n, hn⟩ h h0
  have : m = n := congrArg Fin.val this
  rw [this]
def verbFrom (c : Int) : Nat → Nat → Int
  | _, 0 => 0
  | v, d + 1 => bif (runeOf (v : Int) == c) then (v : Int) else verbFrom c (v + 1) d
def verbOf (c : Int) : Int := verbFrom c 1 17
theorem verb_loop (c : Int) : ∀ d v : Nat, v + d = 18 → Ev (fun k => script_verb.c2 k c (v : Int)) (verbFrom c v d)
  | 0, v, h => by
    obtain rfl : v = 18 := by omega
    exact Ev.step (fun k => script_verb.c2_eq k _ _) (Ev.bif_ff (by decide) (Ev.some _))
  | d + 1, v, h => by
    refine Ev.step (fun k => script_verb.c2_eq k _ _) (Ev.bif_tt (decide_eq_true (by omega)) (Ev.bind (script_Rune_is _) ?_))
    rw [wrap_at (by omega)]
    unfold verbFrom
    cases hb : runeOf (v : Int) == c with
    | true => exact Ev.bif_tt rfl (Ev.some _)
    | false => exact Ev.bif_ff rfl (verb_loop c d (v + 1) (by omega))
theorem script_verb_is (c : Int) : Ev (fun k => script_verb k c) (verbOf c) :=
  Ev.congr (script_verb_eq · c) (verb_loop c 17 1 rfl)
end Go.Proofs.YtigimlfelogdlaaGreatDoor.V
end
section
namespace Go.Proofs.YtigimlfelogdlaaGreatDoor.V
open Go Go.Vm
set_option linter.unusedVariables false
set_option linter.unusedSimpArgs false
theorem decode_low {s : ByteArray} {i : Nat} (h : (s.get! i).toNat < 128) : Utf8.decode s i = ((s.get! i).toNat, 1) := by
  unfold Utf8.decode
  simp only [Nat.add_zero]
  rw [if_pos h]
theorem decode_high {s : ByteArray} {i : Nat} (h : ¬ (s.get! i).toNat < 128) : 128 ≤ (Utf8.decode s i).1 := by
  unfold Utf8.decode
  simp only [Nat.add_zero]
  rw [if_neg h]
  split
  · split
    · assumption
    · show 128 ≤ Utf8.runeError; decide
  · split
    · split
      · rename_i h2
        simp at h2
        show 128 ≤ _
        omega
      · show 128 ≤ Utf8.runeError; decide
    · split
      · split
        · rename_i h2
          simp at h2
          show 128 ≤ _
          omega
        · show 128 ≤ Utf8.runeError; decide
      · show 128 ≤ Utf8.runeError; decide
theorem get_at {s : ByteArray} {i : Nat} (h : i < s.size) : s.get! i = s.data.toList[i]'(by rw [Array.length_toList]; exact h) := by
  obtain ⟨⟨l⟩⟩ := s
  have h : i < l.length := h
  show (⟨l⟩ : Array UInt8)[i]! = l[i]
  rw [getElem!_pos (⟨l⟩ : Array UInt8) i h]
  rfl
theorem size_list (s : ByteArray) : s.size = s.data.toList.length := (Array.length_toList).symm
def numGo : List UInt8 → Int → Nat → Int × Bool
  | [], n, c => (n, decide (0 < c))
  | b :: l, n, c => bif decide (b.toNat < 48) || decide (57 < b.toNat) then (0, false) else bif decide (9 < c + 1) then (0, false) else numGo l (10 * n + ((b.toNat : Int) - 48)) (c + 1)
def numOfB (s : ByteArray) : Int × Bool := numGo s.data.toList 0 0
theorem number_loop (s : ByteArray) (hs : s.size ≤ 4000000) : ∀ d i (n : Int) (c : Nat), i + d = s.size → 0 ≤ n → n < 10 ^ c → c ≤ 9 →
    Ev (fun k => script_number.c3 k n (c : Int) (s, i)) (numGo (s.data.toList.drop i) n c)
  | 0, i, n, c, h, h0, h1, h9 => by
    refine Ev.step (fun k => script_number.c3_eq k _ _ _) (Ev.bif_ff (decide_eq_false (by show ¬ i < s.size; omega)) ?_)
    rw [List.drop_eq_nil_of_le (by rw [← size_list]; omega)]
    have : decide ((c : Int) > 0) = decide (0 < c) := by rw [decide_eq_decide]; omega
    rw [this]
    exact Ev.some _
  | d + 1, i, n, c, h, h0, h1, h9 => by
    have hi : i < s.size := by omega
    have hl : i < s.data.toList.length := by rw [← size_list]; exact hi
    refine Ev.step (fun k => script_number.c3_eq k _ _ _) (Ev.bif_tt (decide_eq_true hi) ?_)
    rw [List.drop_eq_getElem_cons hl, ← get_at hi]
    show Ev (fun k => bif decide (((Utf8.decode s i).1 : Int) < 48) then _ else bif decide (((Utf8.decode s i).1 : Int) > 57) then _ else script_number.c7 k n (c : Int) ((Utf8.decode s i).1 : Int) (s, i + (Utf8.decode s i).2)) _
    unfold numGo
    by_cases hb : (s.get! i).toNat < 128
    · rw [decode_low hb]
      by_cases h48 : (s.get! i).toNat < 48
      · rw [decide_eq_true h48]
        exact Ev.bif_tt (decide_eq_true (by show ((s.get! i).toNat : Int) < 48; omega)) (Ev.some _)
      · refine Ev.bif_ff (decide_eq_false (by show ¬ ((s.get! i).toNat : Int) < 48; omega)) ?_
        by_cases h57 : 57 < (s.get! i).toNat
        · rw [decide_eq_true h57, Bool.or_true]
          exact Ev.bif_tt (decide_eq_true (by show ((s.get! i).toNat : Int) > 57; omega)) (Ev.some _)
        · refine Ev.bif_ff (decide_eq_false (by show ¬ ((s.get! i).toNat : Int) > 57; omega)) (Ev.step (fun k => script_number.c7_eq k _ _ _ _) ?_)
          rw [decide_eq_false h48, decide_eq_false h57, wrap_at (by omega)]
          by_cases hc : 9 < c + 1
          · rw [decide_eq_true hc]
            exact Ev.bif_tt (decide_eq_true (by omega)) (Ev.some _)
          · rw [decide_eq_false hc]
            refine Ev.bif_ff (decide_eq_false (by omega)) ?_
            have hp : (10 : Int) ^ c ≤ 10 ^ 8 := by
              have : (10 : Nat) ^ c ≤ 10 ^ 8 := Nat.pow_le_pow_right (by omega) (by omega)
              exact_mod_cast this
            have h8 : (10 : Int) ^ 8 = 100000000 := by decide
            have e1 : IntKind.wrap .i32 (((s.get! i).toNat : Int) - 48) = ((s.get! i).toNat : Int) - 48 := by rw [IntKind.wrap_i32]; omega
            have e2 : IntKind.wrap .i64 (10 * n) = 10 * n := wrap_id (by omega) (by omega)
            show Ev (fun k => script_number.c3 k (IntKind.wrap .i64 (IntKind.wrap .i64 (10 * n) + IntKind.wrap .i64 (IntKind.wrap .i32 (((s.get! i).toNat : Int) - 48)))) _ (s, i + 1)) _
            rw [e1, e2, wrap_id (x := ((s.get! i).toNat : Int) - 48) (by omega) (by omega), wrap_id (by omega) (by omega)]
            exact number_loop s hs d (i + 1) _ (c + 1) (by omega) (by omega) (by rw [Int.pow_succ]; omega) (by omega)
    · have hd := decode_high hb
      rw [decide_eq_true (show 57 < (s.get! i).toNat by omega), Bool.or_true]
      refine Ev.bif_ff (decide_eq_false (by omega)) (Ev.bif_tt (decide_eq_true (by omega)) (Ev.some _))
theorem script_number_is (s : ByteArray) (hs : s.size ≤ 4000000) : Ev (fun k => script_number k s) (numOfB s) :=
  Ev.congr (script_number_eq · s) (by simpa [numOfB] using number_loop s hs s.size 0 0 0 (by omega) (by omega) (by decide) (by omega))
def partOf (p : ByteArray) : Option (Int ⊕ ByteArray) := bif (numOfB p).2 then some (.inl (numOfB p).1) else some (.inr p)
def words (line : ByteArray) : List ByteArray := (splitL 32 line.data.toList).map ofL
def partsOf (line : ByteArray) : List (Option (Int ⊕ ByteArray)) := (words line).map partOf
theorem pieces_len (c : UInt8) : ∀ l : List UInt8, (pieces c l).1.length + (pieces c l).2.length ≤ l.length ∧ ∀ p ∈ (pieces c l).2, p.length ≤ l.length
  | [] => ⟨Nat.le_refl _, fun p h => by cases h⟩
  | b :: l => by
    obtain ⟨h1, h2⟩ := pieces_len c l
    rw [pieces_step]
    cases b == c with
    | true =>
      refine ⟨by simp only [cond_true, List.length_nil, List.length_cons]; omega, fun p hp => ?_⟩
      rcases List.mem_cons.1 hp with rfl | hp
      · rw [List.length_cons]; omega
      · have := h2 p hp; rw [List.length_cons]; omega
    | false =>
      refine ⟨by simp only [cond_false, List.length_cons]; omega, fun p hp => ?_⟩
      have := h2 p hp; rw [List.length_cons]; omega
theorem splitL_len (c : UInt8) (l : List UInt8) : (splitL c l).length ≤ l.length + 1 := by
  have := (pieces_len c l).1
  unfold splitL
  rw [List.length_cons]; omega
theorem splitL_mem {c : UInt8} {l p : List UInt8} (h : p ∈ splitL c l) : p.length ≤ l.length := by
  obtain ⟨h1, h2⟩ := pieces_len c l
  rcases List.mem_cons.1 h with rfl | h
  · omega
  · exact h2 p h
theorem split_len (c : UInt8) (s : ByteArray) : ((splitL c s.data.toList).map ofL).length ≤ s.size + 1 := by
  rw [List.length_map, size_list]; exact splitL_len c _
theorem split_mem {c : UInt8} {s p : ByteArray} (h : p ∈ (splitL c s.data.toList).map ofL) : p.size ≤ s.size := by
  obtain ⟨q, hq, rfl⟩ := List.mem_map.1 h
  have := splitL_mem hq
  rw [size_list s]
  show q.toArray.size ≤ _
  simpa using this
theorem split_is (c : UInt8) {s : ByteArray} (hs : s.size ≤ 4000000) : strings_Split.f s ⟨#[c]⟩ = some ((splitL c s.data.toList).map ofL) := by
  unfold strings_Split.f
  rw [show (⟨#[c]⟩ : ByteArray).data.toList = [c] from rfl]
  show (bif Nat.ble s.size 4000000 then some ((splitL c s.data.toList).map ofL) else none) = _
  rw [Nat.ble_eq_true_of_le hs]
  rfl
theorem script_Parts_is (line : ByteArray) (hs : line.size ≤ 4000000) : Ev (fun k => script_Parts k line) (partsOf line) := by
  refine Ev.congr (script_Parts_eq · line) ?_
  rw [split_is 32 hs]
  have hl := split_len 32 line
  have := Ev.fold0 (words line) (fun k st i => script_Parts.c3 k st (words line) ((words line).length : Int) i) (fun st p => st ++ [partOf p]) id (fun i st => st.length = i) [] rfl
    (fun st h => Ev.step (fun k => script_Parts.c3_eq k _ _ _ _) (Ev.bif_ff (lt_ff (Nat.lt_irrefl _)) (Ev.some _)))
    (fun i st hi hst => ⟨by rw [List.length_append, hst]; rfl, fun r hr => by
      have hw : (words line).length ≤ line.size + 1 := hl
      refine Ev.step (fun k => script_Parts.c3_eq k _ _ _ _) (Ev.bif_tt (lt_tt hi) (Ev.bif_tt (inI_tt hi) ?_))
      have hp := split_mem (List.getElem_mem hi)
      rw [getD_at hi]
      refine Ev.bind (script_number_is _ (Nat.le_trans hp hs)) ?_
      rw [wrap_at (by omega)]
      unfold partOf at hr
      cases hb : (numOfB (words line)[i]).2 with
      | true =>
        rw [hb] at hr
        exact Ev.bif_tt rfl (Ev.bif_tt (lt32 (by omega)) hr)
      | false =>
        rw [hb] at hr
        exact Ev.bif_ff rfl (Ev.bif_tt (lt32 (by omega)) hr)⟩)
  rw [foldl_app partOf] at this
  exact this
end Go.Proofs.YtigimlfelogdlaaGreatDoor.V
end
section
namespace Go.Proofs.YtigimlfelogdlaaGreatDoor.V
open Go Go.Vm
set_option linter.unusedVariables false
set_option linter.unusedSimpArgs false
abbrev Sp := Int × Int × Int × Int × Int × Int × Int × ByteArray × ByteArray
abbrev Sr := Int × Int × Int × Int × Int × Int × ByteArray × ByteArray
def zr : Sr := (0, 0, 0, 0, 0, 0, ⟨#[]⟩, ⟨#[]⟩)
def none_ : Sp := (0, zr)
abbrev St' := List (Int ⊕ ByteArray)
def runesFrom (s : ByteArray) : Nat → Nat → List Int
  | 0, _ => []
  | d + 1, i => bif decide (i < s.size) then ((Utf8.decode s i).1 : Int) :: runesFrom s d (i + (Utf8.decode s i).2) else []
def runesL (s : ByteArray) : List Int := runesFrom s s.size 0
theorem decode_wide (s : ByteArray) (i : Nat) : 1 ≤ (Utf8.decode s i).2 := by
  unfold Utf8.decode
  simp only
  repeat' split
  all_goals simp
theorem runesFrom_len (s : ByteArray) : ∀ d i, (runesFrom s d i).length ≤ d
  | 0, i => Nat.le_refl _
  | d + 1, i => by
    unfold runesFrom
    cases decide (i < s.size) with
    | false => simp
    | true =>
      have := runesFrom_len s d (i + (Utf8.decode s i).2)
      simp only [cond_true, List.length_cons]
      omega
theorem takeGo_some : ∀ (ks : List Bool) (ps : List (Option (Int ⊕ ByteArray))) (ws : List ByteArray), ps.length = ks.length → (∀ i : Nat, ks[i]? = some false → i < ws.length) → ∃ z, takeGo ps ws ks = some z
  | [], ps, ws, h, hw => ⟨(true, []), by cases ps <;> rfl⟩
  | k :: ks, [], ws, h, hw => by simp at h
  | true :: ks, p :: ps, ws, h, hw => by
    obtain ⟨z, hz⟩ := takeGo_some ks ps ws.tail (by simpa using h) (fun i hi => by
      have := hw (i + 1) (by simpa using hi)
      rw [List.length_tail]; omega)
    match p with
    | none => exact ⟨_, rfl⟩
    | some (.inr s) => exact ⟨_, rfl⟩
    | some (.inl n) => exact ⟨(z.1, .inl n :: z.2), by simp only [takeGo, hz]⟩
  | false :: ks, p :: ps, ws, h, hw => by
    cases ws with
    | nil => have := hw 0 rfl; simp at this
    | cons w ws =>
      obtain ⟨z, hz⟩ := takeGo_some ks ps ws (by simpa using h) (fun i hi => by
        have := hw (i + 1) (by simpa using hi)
        simpa using this)
      exact ⟨(z.1, .inr w :: z.2), by simp only [takeGo, hz]⟩
def takeT (ps : List (Option (Int ⊕ ByteArray))) (ws : List ByteArray) (ks : List Bool) : Bool × St' := (script_take.f ps ws ks).getD (false, [])
theorem take_at {ps : List (Option (Int ⊕ ByteArray))} {ws : List ByteArray} {ks : List Bool} (hk : ks.length ≤ 100) (hw : ∀ i : Nat, ks[i]? = some false → ps.length = ks.length → i < ws.length) : script_take.f ps ws ks = some (takeT ps ws ks) := by
  have : ∃ z, script_take.f ps ws ks = some z := by
    unfold script_take.f
    rw [Nat.ble_eq_true_of_le hk]
    cases hb : Nat.beq ps.length ks.length with
    | false => exact ⟨_, rfl⟩
    | true =>
      have hb := Nat.eq_of_beq_eq_true hb
      exact takeGo_some ks ps ws hb (fun i hi => hw i hi hb)
  obtain ⟨z, hz⟩ := this
  unfold takeT
  rw [hz]; rfl
def fitB : List Bool → List (Option (Int ⊕ ByteArray)) → Bool
  | [], [] => true
  | true :: ks, some (.inl _) :: ps => fitB ks ps
  | false :: ks, _ :: ps => fitB ks ps
  | _, _ => false
theorem takeGo_fit : ∀ (ks : List Bool) (ps : List (Option (Int ⊕ ByteArray))) (ws : List ByteArray) (z : Bool × St'), ps.length = ks.length → takeGo ps ws ks = some z → z.1 = fitB ks ps
  | [], [], ws, z, h, hz => by injection hz with hz; subst hz; rfl
  | [], p :: ps, ws, z, h, hz => by simp at h
  | k :: ks, [], ws, z, h, hz => by simp at h
  | true :: ks, p :: ps, ws, z, h, hz => by
    match p with
    | none => injection hz with hz; subst hz; rfl
    | some (.inr s) => injection hz with hz; subst hz; rfl
    | some (.inl n) =>
      simp only [takeGo] at hz
      split at hz
      · rename_i z' hz'
        injection hz with hz
        subst hz
        exact takeGo_fit ks ps _ z' (by simpa using h) hz'
      · cases hz
  | false :: ks, p :: ps, ws, z, h, hz => by
    obtain ⟨s, wd', z', _, h', e⟩ := takeGo_str hz
    rw [e]
    have : fitB (false :: ks) (p :: ps) = fitB ks ps := by cases p <;> rfl
    rw [this]
    exact takeGo_fit ks ps _ z' (by simpa using h) h'
theorem fitB_len : ∀ (ks : List Bool) (ps : List (Option (Int ⊕ ByteArray))), fitB ks ps = true → ps.length = ks.length
  | [], [], _ => rfl
  | true :: ks, some (.inl _) :: ps, h => by rw [List.length_cons, List.length_cons, fitB_len ks ps h]
  | false :: ks, p :: ps, h => by
    have : fitB (false :: ks) (p :: ps) = fitB ks ps := by cases p <;> rfl
    rw [this] at h
    rw [List.length_cons, List.length_cons, fitB_len ks ps h]
theorem takeT_fit {ps : List (Option (Int ⊕ ByteArray))} {ws : List ByteArray} {ks : List Bool} (hk : ks.length ≤ 100) (hw : ∀ i : Nat, ks[i]? = some false → ps.length = ks.length → i < ws.length) : (takeT ps ws ks).1 = fitB ks ps := by
  have h := take_at hk hw
  generalize takeT ps ws ks = z at h ⊢
  unfold script_take.f at h
  rw [Nat.ble_eq_true_of_le hk] at h
  cases hb : Nat.beq ps.length ks.length with
  | false =>
    rw [hb] at h
    injection h with h
    subst h
    cases hf : fitB ks ps with
    | false => rfl
    | true =>
      rw [fitB_len ks ps hf, Nat.beq_refl] at hb
      cases hb
  | true =>
    rw [hb] at h
    exact takeGo_fit ks ps ws z (Nat.eq_of_beq_eq_true hb) h
def fin (x : Bool) (s : Sp) : Sp × Bool := bif x then (s, true) else (none_, false)
theorem c35_is (k : Nat) (x : Bool) (b2 b4 : Sp) : script_step.c35 (k + 1) x b2 b4 = some (fin x b4) := by
  rw [script_step.c35_eq]
  cases x <;> rfl
def kindsB (v : Int) : List Bool :=
  bif v == 1 || v == 4 then [true] else bif v == 2 then [true, false, true] else bif v == 3 then [true, false, false] else
  bif v == 5 || v == 6 || v == 7 || v == 8 then [true, true, true] else bif v == 16 then [true, true, true, true, true] else [true, true]
def mkStep (v : Int) (y : St') : Sp :=
  bif v == 1 || v == 4 then (v, newI y 0 0, 0, 0, 0, 0, 0, ⟨#[]⟩, ⟨#[]⟩) else
  bif v == 2 then (v, newI y 0 0, 0, newI y 2 0, 0, 0, 0, newS y 1 ⟨#[]⟩, ⟨#[]⟩) else
  bif v == 3 then (v, newI y 0 0, 0, 0, 0, 0, 0, newS y 1 ⟨#[]⟩, newS y 2 ⟨#[]⟩) else
  bif v == 5 || v == 6 || v == 7 || v == 8 then (v, newI y 0 0, newI y 1 0, newI y 2 0, 0, 0, 0, ⟨#[]⟩, ⟨#[]⟩) else
  bif v == 13 || v == 14 || v == 15 then (v, 0, newI y 0 0, 0, newI y 1 0, 0, 0, ⟨#[]⟩, ⟨#[]⟩) else
  bif v == 16 then (v, 0, newI y 0 0, newI y 1 0, newI y 2 0, newI y 3 0, IntKind.wrap .u8 (newI y 4 0), ⟨#[]⟩, ⟨#[]⟩) else
  (v, 0, newI y 0 0, newI y 1 0, 0, 0, 0, ⟨#[]⟩, ⟨#[]⟩)
def stepOf (v : Int) (ps : List (Option (Int ⊕ ByteArray))) (ws : List ByteArray) : Sp × Bool :=
  fin (takeT ps ws (kindsB v)).1 (mkStep v (takeT ps ws (kindsB v)).2)
theorem take_step {β : Type} {ps : List (Option (Int ⊕ ByteArray))} {ws : List ByteArray} (hl : ws.length = ps.length) {ks : List Bool} (hk : ks.length ≤ 100) {f : Nat → Bool × St' → Option β} {r : β} (h : Ev (fun k => f k (takeT ps ws ks)) r) :
    Ev (fun k => (script_take.f ps ws ks).bind fun z => f k z) r := by
  rw [take_at hk (fun i hi e => by
    have := (List.getElem?_eq_some_iff.1 hi).1
    omega)]
  exact h
theorem drop1 {α : Type} (l : List α) : sliceL l 1 (l.length : Int) = l.tail := by
  unfold sliceL
  rw [Int.toNat_natCast, List.take_length]
  show l.drop 1 = l.tail
  exact List.drop_one
theorem rng1 {α : Type} {l : List α} (h : 1 ≤ l.length) : (((decide ((0 : Int) ≤ 1)) && (decide ((1 : Int) ≤ (l.length : Int)))) && (decide ((l.length : Int) ≤ (l.length : Int)))) = true := by
  rw [decide_eq_true (by omega : (1 : Int) ≤ (l.length : Int)), decide_eq_true (Int.le_refl _)]; rfl
section
variable (v : Int) (ps : List (Option (Int ⊕ ByteArray))) (ws : List ByteArray) (b2 : Sp)
theorem bif_bif {α : Type} (c : Bool) (x y z : α) : (bif c then (bif c then x else y) else z) = bif c then x else z := by cases c <;> rfl
theorem c12_is (hl : ws.tail.length = ps.length) (h1 : 1 ≤ ws.length) : Ev (fun k => script_step.c12 k ws ps b2 (v, zr)) (stepOf v ps ws.tail) := by
  refine Ev.step (fun k => script_step.c12_eq k _ _ _ _) (Ev.bif_tt (rng1 h1) ?_)
  rw [drop1]
  generalize ws.tail = ws at hl ⊢
  unfold stepOf
  have e18 : ∀ k, script_step.c18 (k + 1) ws ps b2 (v, zr) = (script_take.f ps ws [true]).bind fun r0 => (script_step.c35 k r0.1 b2 (v, newI r0.2 0 0, 0, 0, 0, 0, 0, ⟨#[]⟩, ⟨#[]⟩)) := fun k => script_step.c18_eq k _ _ _ _
  have g18 : ∀ {r}, r = fin (takeT ps ws [true]).1 (v, newI (takeT ps ws [true]).2 0 0, 0, 0, 0, 0, 0, ⟨#[]⟩, ⟨#[]⟩) → Ev (fun k => script_step.c18 k ws ps b2 (v, zr)) r := fun e => by
    subst e
    exact Ev.step e18 (take_step hl (by decide) (Ev.step (fun k => c35_is k _ _ _) (Ev.some _)))
  have g19 : (v == 1) = false → (v == 4) = false → Ev (fun k => script_step.c19 k ws ps v b2 (v, zr) 0) (fin (takeT ps ws (kindsB v)).1 (mkStep v (takeT ps ws (kindsB v)).2)) := fun n1 n4 => by
    have e27 : ∀ {r}, r = fin (takeT ps ws [true, true, true]).1 (v, newI (takeT ps ws [true, true, true]).2 0 0, newI (takeT ps ws [true, true, true]).2 1 0, newI (takeT ps ws [true, true, true]).2 2 0, 0, 0, 0, ⟨#[]⟩, ⟨#[]⟩) → Ev (fun k => script_step.c27 k ws ps b2 (v, zr)) r := fun e => by
      subst e
      exact Ev.step (fun k => script_step.c27_eq k _ _ _ _) (take_step hl (by decide) (Ev.step (fun k => c35_is k _ _ _) (Ev.some _)))
    have e31 : ∀ {r}, r = fin (takeT ps ws [true, true]).1 (v, 0, newI (takeT ps ws [true, true]).2 0 0, 0, newI (takeT ps ws [true, true]).2 1 0, 0, 0, ⟨#[]⟩, ⟨#[]⟩) → Ev (fun k => script_step.c31 k ws ps b2 (v, zr)) r := fun e => by
      subst e
      exact Ev.step (fun k => script_step.c31_eq k _ _ _ _) (take_step hl (by decide) (Ev.step (fun k => c35_is k _ _ _) (Ev.some _)))
    refine Ev.step (fun k => script_step.c19_eq k _ _ _ _ _ _) ?_
    simp only [bif_bif]
    cases n2 : v == 2 with
    | true =>
      refine Ev.bif_tt rfl (take_step hl (by decide) (Ev.step (fun k => c35_is k _ _ _) ?_))
      unfold kindsB mkStep
      rw [n1, n4, n2]
      exact Ev.some _
    | false =>
      refine Ev.bif_ff rfl ?_
      cases n3 : v == 3 with
      | true =>
        refine Ev.bif_tt rfl (take_step hl (by decide) (Ev.step (fun k => c35_is k _ _ _) ?_))
        unfold kindsB mkStep
        rw [n1, n4, n2, n3]
        exact Ev.some _
      | false =>
        refine Ev.bif_ff rfl ?_
        cases n5 : v == 5 with
        | true => exact Ev.bif_tt rfl (e27 (by unfold kindsB mkStep; rw [n1, n4, n2, n3, n5]; rfl))
        | false =>
          refine Ev.bif_ff rfl ?_
          cases n6 : v == 6 with
          | true => exact Ev.bif_tt rfl (e27 (by unfold kindsB mkStep; rw [n1, n4, n2, n3, n5, n6]; rfl))
          | false =>
            refine Ev.bif_ff rfl ?_
            cases n7 : v == 7 with
            | true => exact Ev.bif_tt rfl (e27 (by unfold kindsB mkStep; rw [n1, n4, n2, n3, n5, n6, n7]; rfl))
            | false =>
              refine Ev.bif_ff rfl ?_
              cases n8 : v == 8 with
              | true => exact Ev.bif_tt rfl (e27 (by unfold kindsB mkStep; rw [n1, n4, n2, n3, n5, n6, n7, n8]; rfl))
              | false =>
                refine Ev.bif_ff rfl (Ev.step (fun k => script_step.c28_eq k _ _ _ _ _ _) ?_)
                simp only [bif_bif]
                cases n13 : v == 13 with
                | true => exact Ev.bif_tt rfl (e31 (by unfold kindsB mkStep; rw [n1, n4, n2, n3, n5, n6, n7, n8, n13, show v = 13 from by simpa using n13]; rfl))
                | false =>
                  refine Ev.bif_ff rfl ?_
                  cases n14 : v == 14 with
                  | true => exact Ev.bif_tt rfl (e31 (by unfold kindsB mkStep; rw [n1, n4, n2, n3, n5, n6, n7, n8, n13, n14, show v = 14 from by simpa using n14]; rfl))
                  | false =>
                    refine Ev.bif_ff rfl ?_
                    cases n15 : v == 15 with
                    | true => exact Ev.bif_tt rfl (e31 (by unfold kindsB mkStep; rw [n1, n4, n2, n3, n5, n6, n7, n8, n13, n14, n15, show v = 15 from by simpa using n15]; rfl))
                    | false =>
                      refine Ev.bif_ff rfl (Ev.step (fun k => script_step.c32_eq k _ _ _ _ _ _) ?_)
                      cases n16 : v == 16 with
                      | true =>
                        refine Ev.bif_tt rfl (take_step hl (by decide) (Ev.step (fun k => c35_is k _ _ _) ?_))
                        unfold kindsB mkStep
                        rw [n1, n4, n2, n3, n5, n6, n7, n8, n13, n14, n15, n16]
                        exact Ev.some _
                      | false =>
                        refine Ev.bif_ff rfl (take_step hl (by decide) (Ev.step (fun k => c35_is k _ _ _) ?_))
                        unfold kindsB mkStep
                        rw [n1, n4, n2, n3, n5, n6, n7, n8, n13, n14, n15, n16]
                        exact Ev.some _
  show Ev (fun k => bif (v == 1) then (bif (v == 1) then (script_step.c18 k ws ps b2 (v, zr)) else (script_step.c19 k ws ps v b2 (v, zr) 0)) else (bif (v == 4) then (script_step.c18 k ws ps b2 (v, zr)) else (script_step.c19 k ws ps v b2 (v, zr) 0))) _
  simp only [bif_bif]
  cases n1 : v == 1 with
  | true => exact Ev.bif_tt rfl (g18 (by unfold kindsB mkStep; rw [n1]; rfl))
  | false =>
    refine Ev.bif_ff rfl ?_
    cases n4 : v == 4 with
    | true => exact Ev.bif_tt rfl (g18 (by unfold kindsB mkStep; rw [n1, n4]; rfl))
    | false => exact Ev.bif_ff rfl (g19 n1 n4)
end
def stepEnd (n : Nat) (v : Int) (ps : List (Option (Int ⊕ ByteArray))) (ws : List ByteArray) : Sp × Bool :=
  bif Nat.beq n 1 then bif v == 0 then (none_, false) else stepOf v ps ws.tail else (none_, false)
def lastVerb (v : Int) (rs : List Int) : Int := rs.foldl (fun _ r => verbOf r) v
theorem c6_is (s : ByteArray) (ps : List (Option (Int ⊕ ByteArray))) (ws : List ByteArray) (b2 : Sp) (hl : ws.tail.length = ps.length) (h1 : 1 ≤ ws.length) : ∀ d i n (v : Int), s.size ≤ i + d → n + d ≤ 4000001 →
    Ev (fun k => script_step.c6 k ws ps (n : Int) b2 (v, zr) (s, i)) (stepEnd (n + (runesFrom s d i).length) (lastVerb v (runesFrom s d i)) ps ws) := by
  have hend : ∀ (i n : Nat) (v : Int), ¬ i < s.size → Ev (fun k => script_step.c6 k ws ps (n : Int) b2 (v, zr) (s, i)) (stepEnd n v ps ws) := fun i n v hi => by
    refine Ev.step (fun k => script_step.c6_eq k _ _ _ _ _ _) (Ev.bif_ff (decide_eq_false hi) ?_)
    unfold stepEnd
    by_cases hn : n = 1
    · subst hn
      refine Ev.bif_ff rfl ?_
      show Ev (fun k => bif (v == 0) then _ else script_step.c12 k ws ps b2 (v, zr)) (bif v == 0 then (none_, false) else stepOf v ps ws.tail)
      cases hv : v == 0 with
      | true => exact Ev.bif_tt rfl (Ev.some _)
      | false => exact Ev.bif_ff rfl (c12_is v ps ws b2 hl h1)
    · rw [show Nat.beq n 1 = false from Bool.eq_false_iff.2 fun h => hn (Nat.eq_of_beq_eq_true h)]
      exact Ev.bif_tt (by rw [bne_iff_ne]; omega) (Ev.some _)
  intro d
  induction d with
  | zero =>
    intro i n v h hn
    exact hend i n v (by omega)
  | succ d ih =>
    intro i n v h hn
    unfold runesFrom
    by_cases hi : i < s.size
    · rw [decide_eq_true hi]
      refine Ev.step (fun k => script_step.c6_eq k _ _ _ _ _ _) (Ev.bif_tt (decide_eq_true hi) (Ev.bind (script_verb_is _) ?_))
      rw [wrap_at (by omega)]
      have hw := decode_wide s i
      have := ih (i + (Utf8.decode s i).2) (n + 1) (verbOf ((Utf8.decode s i).1 : Int)) (by omega) (by omega)
      rw [cond_true, List.length_cons, show n + ((runesFrom s d (i + (Utf8.decode s i).2)).length + 1) = n + 1 + (runesFrom s d (i + (Utf8.decode s i).2)).length by omega]
      exact this
    · rw [decide_eq_false hi]
      exact hend i n v hi
def stepF (line : ByteArray) : Sp × Bool :=
  let rs := runesL ((words line).headD ⟨#[]⟩)
  stepEnd rs.length (lastVerb 0 rs) (partsOf line).tail (words line)
theorem words_cons (line : ByteArray) : ∃ w l, words line = w :: l := ⟨_, _, rfl⟩
theorem script_step_is (line : ByteArray) (hs : line.size ≤ 4000000) : Ev (fun k => script_step k line) (stepF line) := by
  refine Ev.congr (script_step_eq · line) ?_
  rw [split_is 32 hs]
  show Ev (fun k => (script_Parts k line).bind _) _
  refine Ev.bind (script_Parts_is line hs) ?_
  obtain ⟨w, l, hw⟩ := words_cons line
  have hp : partsOf line = partOf w :: l.map partOf := by unfold partsOf; rw [hw]; rfl
  have hsz : w.size ≤ line.size := split_mem (c := 32) (by show w ∈ words line; rw [hw]; simp)
  refine Ev.bif_tt (rng1 (by rw [hp]; simp)) (Ev.bif_tt (inI_tt (i := 0) (by show 0 < (words line).length; rw [hw]; simp)) ?_)
  rw [drop1]
  have := c6_is w (partsOf line).tail (words line) (Ty.zero Ty_cluster_Step) (by rw [hp, hw]; simp) (by rw [hw]; simp) w.size 0 0 0 (by omega) (by omega)
  rw [Nat.zero_add] at this
  unfold stepF runesL
  rw [show (words line).headD ⟨#[]⟩ = w by rw [hw]; rfl]
  have e : ((splitL 32 line.data.toList).map ofL).getD (Int.toNat 0) (⟨#[]⟩ : ByteArray) = w := by show (words line).getD 0 _ = w; rw [hw]; rfl
  rw [e]
  exact this
end Go.Proofs.YtigimlfelogdlaaGreatDoor.V
end
section
namespace Go.Proofs.YtigimlfelogdlaaGreatDoor.V
open Go Go.Vm
set_option linter.unusedVariables false
set_option linter.unusedSimpArgs false
theorem strAt_get (s : ByteArray) (i : Nat) : strAt s (i : Int) = ((s.get! i).toNat : Int) := by
  obtain ⟨⟨l⟩⟩ := s
  unfold strAt
  rw [Int.toNat_natCast]
  show (((l.getD i 0).toNat : Nat) : Int) = (((⟨l⟩ : Array UInt8)[i]!).toNat : Int)
  congr 2
  by_cases h : i < l.length
  · rw [getElem!_pos (⟨l⟩ : Array UInt8) i h]
    simp [List.getD_eq_getElem?_getD, h]
  · rw [getElem!_neg (⟨l⟩ : Array UInt8) i h]
    simp [List.getD_eq_getElem?_getD, h]
    rfl
theorem bif_dec {α : Type} (P : Prop) [Decidable P] (x y : α) : (bif decide P then x else y) = if P then x else y := by by_cases h : P <;> simp [h]
theorem inI_dec (i n : Nat) : inI (i : Int) n = decide (i < n) := by
  unfold inI
  by_cases h : i < n
  · rw [decide_eq_true h, decide_eq_true (by omega), decide_eq_true (by omega)]; rfl
  · rw [decide_eq_false h, decide_eq_false (by omega : ¬ ((i : Int) < (n : Int))), Bool.and_false]
theorem wrapB (b : Nat) (h : b < 256) : IntKind.wrap .i64 (b : Int) = b := wrap_id (by omega) (by omega)
theorem tail_at (k : Nat) (s : ByteArray) (i : Nat) (lo hi : Int) : althingref04_tail k s (i : Int) lo hi = some (decide (i < s.size ∧ lo ≤ ((s.get! i).toNat : Int) ∧ ((s.get! i).toNat : Int) ≤ hi)) := by
  rw [althingref04_tail_eq]
  have hb : (s.get! i).toNat < 256 := UInt8.toNat_lt _
  rw [strAt_get, wrapB _ hb]
  by_cases h : i < s.size
  · rw [lt_tt h, inI_tt h]
    simp only [cond_true]
    by_cases h1 : lo ≤ ((s.get! i).toNat : Int)
    · have a : decide (((s.get! i).toNat : Int) ≥ lo) = true := decide_eq_true h1
      rw [a]
      simp only [cond_true]
      congr 1
      rw [decide_eq_decide]
      exact ⟨fun h2 => ⟨h, h1, h2⟩, fun h2 => h2.2.2⟩
    · have a : decide (((s.get! i).toNat : Int) ≥ lo) = false := decide_eq_false h1
      have c : decide (i < s.size ∧ lo ≤ ((s.get! i).toNat : Int) ∧ ((s.get! i).toNat : Int) ≤ hi) = false := decide_eq_false (fun h2 => h1 h2.2.1)
      rw [a, c]; rfl
  · have c : decide (i < s.size ∧ lo ≤ ((s.get! i).toNat : Int) ∧ ((s.get! i).toNat : Int) ≤ hi) = false := decide_eq_false (fun h2 => h h2.1)
    rw [lt_ff h, c]; rfl
theorem tail1 (k : Nat) (s : ByteArray) (lo hi : Int) : althingref04_tail k s 1 lo hi = some (decide (1 < s.size ∧ lo ≤ ((s.get! 1).toNat : Int) ∧ ((s.get! 1).toNat : Int) ≤ hi)) := tail_at k s 1 lo hi
theorem tail2 (k : Nat) (s : ByteArray) (lo hi : Int) : althingref04_tail k s 2 lo hi = some (decide (2 < s.size ∧ lo ≤ ((s.get! 2).toNat : Int) ∧ ((s.get! 2).toNat : Int) ≤ hi)) := tail_at k s 2 lo hi
theorem tail3 (k : Nat) (s : ByteArray) (lo hi : Int) : althingref04_tail k s 3 lo hi = some (decide (3 < s.size ∧ lo ≤ ((s.get! 3).toNat : Int) ∧ ((s.get! 3).toNat : Int) ≤ hi)) := tail_at k s 3 lo hi
set_option maxHeartbeats 8000000 in
set_option maxRecDepth 100000 in
theorem first_0 (k : Nat) (s : ByteArray) (hs : 0 < s.size) (hlo : 0 ≤ (s.get! 0).toNat) (hhi : (s.get! 0).toNat ≤ 127) : althingref04_first (k + 6) s = some (((Utf8.decode s 0).1 : Int), ((Utf8.decode s 0).2 : Int)) := by
  rw [Lib.decode_at]
  have e0 : strAt s 0 = ((s.get! 0).toNat : Int) := strAt_get s 0
  have e1 : strAt s 1 = ((s.get! 1).toNat : Int) := strAt_get s 1
  have e2 : strAt s 2 = ((s.get! 2).toNat : Int) := strAt_get s 2
  have e3 : strAt s 3 = ((s.get! 3).toNat : Int) := strAt_get s 3
  have r0 : (s.get! 0).toNat < 256 := UInt8.toNat_lt _
  have r1 : (s.get! 1).toNat < 256 := UInt8.toNat_lt _
  have r2 : (s.get! 2).toNat < 256 := UInt8.toNat_lt _
  have r3 : (s.get! 3).toNat < 256 := UInt8.toNat_lt _
  have t1 := fun k => tail1 k s
  have t2 := fun k => tail2 k s
  have t3 := fun k => tail3 k s
  have i0 : inI 0 s.size = true := inI_tt hs
  have i1 : inI 1 s.size = decide (1 < s.size) := inI_dec 1 _
  have i2 : inI 2 s.size = decide (2 < s.size) := inI_dec 2 _
  have i3 : inI 3 s.size = decide (3 < s.size) := inI_dec 3 _
  rw [Nat.sub_zero, Nat.zero_add, Nat.zero_add, Nat.zero_add]
  generalize (s.get! 0).toNat = b0 at *
  generalize (s.get! 1).toNat = b1 at *
  generalize (s.get! 2).toNat = b2 at *
  generalize (s.get! 3).toNat = b3 at *
  have u0 := wrapB b0 r0
  have u1 := wrapB b1 r1
  have u2 := wrapB b2 r2
  have u3 := wrapB b3 r3
  have lt128 : decide ((b0 : Int) < 128) = true := decide_eq_true (by omega)
  have ge194 : decide ((b0 : Int) ≥ 194) = false := decide_eq_false (by omega)
  have le223 : decide ((b0 : Int) ≤ 223) = true := decide_eq_true (by omega)
  have ge224 : decide ((b0 : Int) ≥ 224) = false := decide_eq_false (by omega)
  have le239 : decide ((b0 : Int) ≤ 239) = true := decide_eq_true (by omega)
  have ge240 : decide ((b0 : Int) ≥ 240) = false := decide_eq_false (by omega)
  have le244 : decide ((b0 : Int) ≤ 244) = true := decide_eq_true (by omega)
  have q224 : ((b0 : Int) == 224) = false := by rw [beq_eq_false_iff_ne]; omega
  have q237 : ((b0 : Int) == 237) = false := by rw [beq_eq_false_iff_ne]; omega
  have q240 : ((b0 : Int) == 240) = false := by rw [beq_eq_false_iff_ne]; omega
  have q244 : ((b0 : Int) == 244) = false := by rw [beq_eq_false_iff_ne]; omega
  simp only [althingref04_first_eq, althingref04_first.c5_eq, althingref04_first.c6_eq, althingref04_first.c12_eq, althingref04_first.c13_eq, althingref04_first.c14_eq, althingref04_first.c20_eq, althingref04_first.c21_eq, t1, t2, t3, e0, e1, e2, e3, i0, i1, i2, i3, u0, u1, u2, u3, lt128, ge194, le223, ge224, le239, ge240, le244, q224, q237, q240, q244, cond_true, cond_false, Option.bind_some, bif_dec, IntKind.wrap_i64]
  clear t1 t2 t3 e0 e1 e2 e3 i0 i1 i2 i3 u0 u1 u2 u3 lt128 ge194 le223 ge224 le239 ge240 le244 q224 q237 q240 q244
  generalize s.size = n at *
  unfold Lib.decodeN
  (repeat' split) <;> first | rfl | (exfalso; omega) | (simp only [Option.some.injEq, Prod.mk.injEq]; refine ⟨?_, ?_⟩ <;> omega)
set_option maxHeartbeats 8000000 in
set_option maxRecDepth 100000 in
theorem first_1 (k : Nat) (s : ByteArray) (hs : 0 < s.size) (hlo : 128 ≤ (s.get! 0).toNat) (hhi : (s.get! 0).toNat ≤ 193) : althingref04_first (k + 6) s = some (((Utf8.decode s 0).1 : Int), ((Utf8.decode s 0).2 : Int)) := by
  rw [Lib.decode_at]
  have e0 : strAt s 0 = ((s.get! 0).toNat : Int) := strAt_get s 0
  have e1 : strAt s 1 = ((s.get! 1).toNat : Int) := strAt_get s 1
  have e2 : strAt s 2 = ((s.get! 2).toNat : Int) := strAt_get s 2
  have e3 : strAt s 3 = ((s.get! 3).toNat : Int) := strAt_get s 3
  have r0 : (s.get! 0).toNat < 256 := UInt8.toNat_lt _
  have r1 : (s.get! 1).toNat < 256 := UInt8.toNat_lt _
  have r2 : (s.get! 2).toNat < 256 := UInt8.toNat_lt _
  have r3 : (s.get! 3).toNat < 256 := UInt8.toNat_lt _
  have t1 := fun k => tail1 k s
  have t2 := fun k => tail2 k s
  have t3 := fun k => tail3 k s
  have i0 : inI 0 s.size = true := inI_tt hs
  have i1 : inI 1 s.size = decide (1 < s.size) := inI_dec 1 _
  have i2 : inI 2 s.size = decide (2 < s.size) := inI_dec 2 _
  have i3 : inI 3 s.size = decide (3 < s.size) := inI_dec 3 _
  rw [Nat.sub_zero, Nat.zero_add, Nat.zero_add, Nat.zero_add]
  generalize (s.get! 0).toNat = b0 at *
  generalize (s.get! 1).toNat = b1 at *
  generalize (s.get! 2).toNat = b2 at *
  generalize (s.get! 3).toNat = b3 at *
  have u0 := wrapB b0 r0
  have u1 := wrapB b1 r1
  have u2 := wrapB b2 r2
  have u3 := wrapB b3 r3
  have lt128 : decide ((b0 : Int) < 128) = false := decide_eq_false (by omega)
  have ge194 : decide ((b0 : Int) ≥ 194) = false := decide_eq_false (by omega)
  have le223 : decide ((b0 : Int) ≤ 223) = true := decide_eq_true (by omega)
  have ge224 : decide ((b0 : Int) ≥ 224) = false := decide_eq_false (by omega)
  have le239 : decide ((b0 : Int) ≤ 239) = true := decide_eq_true (by omega)
  have ge240 : decide ((b0 : Int) ≥ 240) = false := decide_eq_false (by omega)
  have le244 : decide ((b0 : Int) ≤ 244) = true := decide_eq_true (by omega)
  have q224 : ((b0 : Int) == 224) = false := by rw [beq_eq_false_iff_ne]; omega
  have q237 : ((b0 : Int) == 237) = false := by rw [beq_eq_false_iff_ne]; omega
  have q240 : ((b0 : Int) == 240) = false := by rw [beq_eq_false_iff_ne]; omega
  have q244 : ((b0 : Int) == 244) = false := by rw [beq_eq_false_iff_ne]; omega
  simp only [althingref04_first_eq, althingref04_first.c5_eq, althingref04_first.c6_eq, althingref04_first.c12_eq, althingref04_first.c13_eq, althingref04_first.c14_eq, althingref04_first.c20_eq, althingref04_first.c21_eq, t1, t2, t3, e0, e1, e2, e3, i0, i1, i2, i3, u0, u1, u2, u3, lt128, ge194, le223, ge224, le239, ge240, le244, q224, q237, q240, q244, cond_true, cond_false, Option.bind_some, bif_dec, IntKind.wrap_i64]
  clear t1 t2 t3 e0 e1 e2 e3 i0 i1 i2 i3 u0 u1 u2 u3 lt128 ge194 le223 ge224 le239 ge240 le244 q224 q237 q240 q244
  generalize s.size = n at *
  unfold Lib.decodeN
  (repeat' split) <;> first | rfl | (exfalso; omega) | (simp only [Option.some.injEq, Prod.mk.injEq]; refine ⟨?_, ?_⟩ <;> omega)
set_option maxHeartbeats 8000000 in
set_option maxRecDepth 100000 in
theorem first_2 (k : Nat) (s : ByteArray) (hs : 0 < s.size) (hlo : 194 ≤ (s.get! 0).toNat) (hhi : (s.get! 0).toNat ≤ 223) : althingref04_first (k + 6) s = some (((Utf8.decode s 0).1 : Int), ((Utf8.decode s 0).2 : Int)) := by
  rw [Lib.decode_at]
  have e0 : strAt s 0 = ((s.get! 0).toNat : Int) := strAt_get s 0
  have e1 : strAt s 1 = ((s.get! 1).toNat : Int) := strAt_get s 1
  have e2 : strAt s 2 = ((s.get! 2).toNat : Int) := strAt_get s 2
  have e3 : strAt s 3 = ((s.get! 3).toNat : Int) := strAt_get s 3
  have r0 : (s.get! 0).toNat < 256 := UInt8.toNat_lt _
  have r1 : (s.get! 1).toNat < 256 := UInt8.toNat_lt _
  have r2 : (s.get! 2).toNat < 256 := UInt8.toNat_lt _
  have r3 : (s.get! 3).toNat < 256 := UInt8.toNat_lt _
  have t1 := fun k => tail1 k s
  have t2 := fun k => tail2 k s
  have t3 := fun k => tail3 k s
  have i0 : inI 0 s.size = true := inI_tt hs
  have i1 : inI 1 s.size = decide (1 < s.size) := inI_dec 1 _
  have i2 : inI 2 s.size = decide (2 < s.size) := inI_dec 2 _
  have i3 : inI 3 s.size = decide (3 < s.size) := inI_dec 3 _
  rw [Nat.sub_zero, Nat.zero_add, Nat.zero_add, Nat.zero_add]
  generalize (s.get! 0).toNat = b0 at *
  generalize (s.get! 1).toNat = b1 at *
  generalize (s.get! 2).toNat = b2 at *
  generalize (s.get! 3).toNat = b3 at *
  have u0 := wrapB b0 r0
  have u1 := wrapB b1 r1
  have u2 := wrapB b2 r2
  have u3 := wrapB b3 r3
  have lt128 : decide ((b0 : Int) < 128) = false := decide_eq_false (by omega)
  have ge194 : decide ((b0 : Int) ≥ 194) = true := decide_eq_true (by omega)
  have le223 : decide ((b0 : Int) ≤ 223) = true := decide_eq_true (by omega)
  have ge224 : decide ((b0 : Int) ≥ 224) = false := decide_eq_false (by omega)
  have le239 : decide ((b0 : Int) ≤ 239) = true := decide_eq_true (by omega)
  have ge240 : decide ((b0 : Int) ≥ 240) = false := decide_eq_false (by omega)
  have le244 : decide ((b0 : Int) ≤ 244) = true := decide_eq_true (by omega)
  have q224 : ((b0 : Int) == 224) = false := by rw [beq_eq_false_iff_ne]; omega
  have q237 : ((b0 : Int) == 237) = false := by rw [beq_eq_false_iff_ne]; omega
  have q240 : ((b0 : Int) == 240) = false := by rw [beq_eq_false_iff_ne]; omega
  have q244 : ((b0 : Int) == 244) = false := by rw [beq_eq_false_iff_ne]; omega
  simp only [althingref04_first_eq, althingref04_first.c5_eq, althingref04_first.c6_eq, althingref04_first.c12_eq, althingref04_first.c13_eq, althingref04_first.c14_eq, althingref04_first.c20_eq, althingref04_first.c21_eq, t1, t2, t3, e0, e1, e2, e3, i0, i1, i2, i3, u0, u1, u2, u3, lt128, ge194, le223, ge224, le239, ge240, le244, q224, q237, q240, q244, cond_true, cond_false, Option.bind_some, bif_dec, IntKind.wrap_i64]
  clear t1 t2 t3 e0 e1 e2 e3 i0 i1 i2 i3 u0 u1 u2 u3 lt128 ge194 le223 ge224 le239 ge240 le244 q224 q237 q240 q244
  generalize s.size = n at *
  unfold Lib.decodeN
  (repeat' split) <;> first | rfl | (exfalso; omega) | (simp only [Option.some.injEq, Prod.mk.injEq]; refine ⟨?_, ?_⟩ <;> omega)
set_option maxHeartbeats 8000000 in
set_option maxRecDepth 100000 in
theorem first_3 (k : Nat) (s : ByteArray) (hs : 0 < s.size) (hlo : 224 ≤ (s.get! 0).toNat) (hhi : (s.get! 0).toNat ≤ 224) : althingref04_first (k + 6) s = some (((Utf8.decode s 0).1 : Int), ((Utf8.decode s 0).2 : Int)) := by
  rw [Lib.decode_at]
  have e0 : strAt s 0 = ((s.get! 0).toNat : Int) := strAt_get s 0
  have e1 : strAt s 1 = ((s.get! 1).toNat : Int) := strAt_get s 1
  have e2 : strAt s 2 = ((s.get! 2).toNat : Int) := strAt_get s 2
  have e3 : strAt s 3 = ((s.get! 3).toNat : Int) := strAt_get s 3
  have r0 : (s.get! 0).toNat < 256 := UInt8.toNat_lt _
  have r1 : (s.get! 1).toNat < 256 := UInt8.toNat_lt _
  have r2 : (s.get! 2).toNat < 256 := UInt8.toNat_lt _
  have r3 : (s.get! 3).toNat < 256 := UInt8.toNat_lt _
  have t1 := fun k => tail1 k s
  have t2 := fun k => tail2 k s
  have t3 := fun k => tail3 k s
  have i0 : inI 0 s.size = true := inI_tt hs
  have i1 : inI 1 s.size = decide (1 < s.size) := inI_dec 1 _
  have i2 : inI 2 s.size = decide (2 < s.size) := inI_dec 2 _
  have i3 : inI 3 s.size = decide (3 < s.size) := inI_dec 3 _
  rw [Nat.sub_zero, Nat.zero_add, Nat.zero_add, Nat.zero_add]
  generalize (s.get! 0).toNat = b0 at *
  generalize (s.get! 1).toNat = b1 at *
  generalize (s.get! 2).toNat = b2 at *
  generalize (s.get! 3).toNat = b3 at *
  have u0 := wrapB b0 r0
  have u1 := wrapB b1 r1
  have u2 := wrapB b2 r2
  have u3 := wrapB b3 r3
  have lt128 : decide ((b0 : Int) < 128) = false := decide_eq_false (by omega)
  have ge194 : decide ((b0 : Int) ≥ 194) = true := decide_eq_true (by omega)
  have le223 : decide ((b0 : Int) ≤ 223) = false := decide_eq_false (by omega)
  have ge224 : decide ((b0 : Int) ≥ 224) = true := decide_eq_true (by omega)
  have le239 : decide ((b0 : Int) ≤ 239) = true := decide_eq_true (by omega)
  have ge240 : decide ((b0 : Int) ≥ 240) = false := decide_eq_false (by omega)
  have le244 : decide ((b0 : Int) ≤ 244) = true := decide_eq_true (by omega)
  have q224 : ((b0 : Int) == 224) = true := by rw [beq_iff_eq]; omega
  have q237 : ((b0 : Int) == 237) = false := by rw [beq_eq_false_iff_ne]; omega
  have q240 : ((b0 : Int) == 240) = false := by rw [beq_eq_false_iff_ne]; omega
  have q244 : ((b0 : Int) == 244) = false := by rw [beq_eq_false_iff_ne]; omega
  simp only [althingref04_first_eq, althingref04_first.c5_eq, althingref04_first.c6_eq, althingref04_first.c12_eq, althingref04_first.c13_eq, althingref04_first.c14_eq, althingref04_first.c20_eq, althingref04_first.c21_eq, t1, t2, t3, e0, e1, e2, e3, i0, i1, i2, i3, u0, u1, u2, u3, lt128, ge194, le223, ge224, le239, ge240, le244, q224, q237, q240, q244, cond_true, cond_false, Option.bind_some, bif_dec, IntKind.wrap_i64]
  clear t1 t2 t3 e0 e1 e2 e3 i0 i1 i2 i3 u0 u1 u2 u3 lt128 ge194 le223 ge224 le239 ge240 le244 q224 q237 q240 q244
  generalize s.size = n at *
  unfold Lib.decodeN
  (repeat' split) <;> first | rfl | (exfalso; omega) | (simp only [Option.some.injEq, Prod.mk.injEq]; refine ⟨?_, ?_⟩ <;> omega)
set_option maxHeartbeats 8000000 in
set_option maxRecDepth 100000 in
theorem first_4 (k : Nat) (s : ByteArray) (hs : 0 < s.size) (hlo : 225 ≤ (s.get! 0).toNat) (hhi : (s.get! 0).toNat ≤ 236) : althingref04_first (k + 6) s = some (((Utf8.decode s 0).1 : Int), ((Utf8.decode s 0).2 : Int)) := by
  rw [Lib.decode_at]
  have e0 : strAt s 0 = ((s.get! 0).toNat : Int) := strAt_get s 0
  have e1 : strAt s 1 = ((s.get! 1).toNat : Int) := strAt_get s 1
  have e2 : strAt s 2 = ((s.get! 2).toNat : Int) := strAt_get s 2
  have e3 : strAt s 3 = ((s.get! 3).toNat : Int) := strAt_get s 3
  have r0 : (s.get! 0).toNat < 256 := UInt8.toNat_lt _
  have r1 : (s.get! 1).toNat < 256 := UInt8.toNat_lt _
  have r2 : (s.get! 2).toNat < 256 := UInt8.toNat_lt _
  have r3 : (s.get! 3).toNat < 256 := UInt8.toNat_lt _
  have t1 := fun k => tail1 k s
  have t2 := fun k => tail2 k s
  have t3 := fun k => tail3 k s
  have i0 : inI 0 s.size = true := inI_tt hs
  have i1 : inI 1 s.size = decide (1 < s.size) := inI_dec 1 _
  have i2 : inI 2 s.size = decide (2 < s.size) := inI_dec 2 _
  have i3 : inI 3 s.size = decide (3 < s.size) := inI_dec 3 _
  rw [Nat.sub_zero, Nat.zero_add, Nat.zero_add, Nat.zero_add]
  generalize (s.get! 0).toNat = b0 at *
  generalize (s.get! 1).toNat = b1 at *
  generalize (s.get! 2).toNat = b2 at *
  generalize (s.get! 3).toNat = b3 at *
  have u0 := wrapB b0 r0
  have u1 := wrapB b1 r1
  have u2 := wrapB b2 r2
  have u3 := wrapB b3 r3
  have lt128 : decide ((b0 : Int) < 128) = false := decide_eq_false (by omega)
  have ge194 : decide ((b0 : Int) ≥ 194) = true := decide_eq_true (by omega)
  have le223 : decide ((b0 : Int) ≤ 223) = false := decide_eq_false (by omega)
  have ge224 : decide ((b0 : Int) ≥ 224) = true := decide_eq_true (by omega)
  have le239 : decide ((b0 : Int) ≤ 239) = true := decide_eq_true (by omega)
  have ge240 : decide ((b0 : Int) ≥ 240) = false := decide_eq_false (by omega)
  have le244 : decide ((b0 : Int) ≤ 244) = true := decide_eq_true (by omega)
  have q224 : ((b0 : Int) == 224) = false := by rw [beq_eq_false_iff_ne]; omega
  have q237 : ((b0 : Int) == 237) = false := by rw [beq_eq_false_iff_ne]; omega
  have q240 : ((b0 : Int) == 240) = false := by rw [beq_eq_false_iff_ne]; omega
  have q244 : ((b0 : Int) == 244) = false := by rw [beq_eq_false_iff_ne]; omega
  simp only [althingref04_first_eq, althingref04_first.c5_eq, althingref04_first.c6_eq, althingref04_first.c12_eq, althingref04_first.c13_eq, althingref04_first.c14_eq, althingref04_first.c20_eq, althingref04_first.c21_eq, t1, t2, t3, e0, e1, e2, e3, i0, i1, i2, i3, u0, u1, u2, u3, lt128, ge194, le223, ge224, le239, ge240, le244, q224, q237, q240, q244, cond_true, cond_false, Option.bind_some, bif_dec, IntKind.wrap_i64]
  clear t1 t2 t3 e0 e1 e2 e3 i0 i1 i2 i3 u0 u1 u2 u3 lt128 ge194 le223 ge224 le239 ge240 le244 q224 q237 q240 q244
  generalize s.size = n at *
  unfold Lib.decodeN
  (repeat' split) <;> first | rfl | (exfalso; omega) | (simp only [Option.some.injEq, Prod.mk.injEq]; refine ⟨?_, ?_⟩ <;> omega)
set_option maxHeartbeats 8000000 in
set_option maxRecDepth 100000 in
theorem first_5 (k : Nat) (s : ByteArray) (hs : 0 < s.size) (hlo : 237 ≤ (s.get! 0).toNat) (hhi : (s.get! 0).toNat ≤ 237) : althingref04_first (k + 6) s = some (((Utf8.decode s 0).1 : Int), ((Utf8.decode s 0).2 : Int)) := by
  rw [Lib.decode_at]
  have e0 : strAt s 0 = ((s.get! 0).toNat : Int) := strAt_get s 0
  have e1 : strAt s 1 = ((s.get! 1).toNat : Int) := strAt_get s 1
  have e2 : strAt s 2 = ((s.get! 2).toNat : Int) := strAt_get s 2
  have e3 : strAt s 3 = ((s.get! 3).toNat : Int) := strAt_get s 3
  have r0 : (s.get! 0).toNat < 256 := UInt8.toNat_lt _
  have r1 : (s.get! 1).toNat < 256 := UInt8.toNat_lt _
  have r2 : (s.get! 2).toNat < 256 := UInt8.toNat_lt _
  have r3 : (s.get! 3).toNat < 256 := UInt8.toNat_lt _
  have t1 := fun k => tail1 k s
  have t2 := fun k => tail2 k s
  have t3 := fun k => tail3 k s
  have i0 : inI 0 s.size = true := inI_tt hs
  have i1 : inI 1 s.size = decide (1 < s.size) := inI_dec 1 _
  have i2 : inI 2 s.size = decide (2 < s.size) := inI_dec 2 _
  have i3 : inI 3 s.size = decide (3 < s.size) := inI_dec 3 _
  rw [Nat.sub_zero, Nat.zero_add, Nat.zero_add, Nat.zero_add]
  generalize (s.get! 0).toNat = b0 at *
  generalize (s.get! 1).toNat = b1 at *
  generalize (s.get! 2).toNat = b2 at *
  generalize (s.get! 3).toNat = b3 at *
  have u0 := wrapB b0 r0
  have u1 := wrapB b1 r1
  have u2 := wrapB b2 r2
  have u3 := wrapB b3 r3
  have lt128 : decide ((b0 : Int) < 128) = false := decide_eq_false (by omega)
  have ge194 : decide ((b0 : Int) ≥ 194) = true := decide_eq_true (by omega)
  have le223 : decide ((b0 : Int) ≤ 223) = false := decide_eq_false (by omega)
  have ge224 : decide ((b0 : Int) ≥ 224) = true := decide_eq_true (by omega)
  have le239 : decide ((b0 : Int) ≤ 239) = true := decide_eq_true (by omega)
  have ge240 : decide ((b0 : Int) ≥ 240) = false := decide_eq_false (by omega)
  have le244 : decide ((b0 : Int) ≤ 244) = true := decide_eq_true (by omega)
  have q224 : ((b0 : Int) == 224) = false := by rw [beq_eq_false_iff_ne]; omega
  have q237 : ((b0 : Int) == 237) = true := by rw [beq_iff_eq]; omega
  have q240 : ((b0 : Int) == 240) = false := by rw [beq_eq_false_iff_ne]; omega
  have q244 : ((b0 : Int) == 244) = false := by rw [beq_eq_false_iff_ne]; omega
  simp only [althingref04_first_eq, althingref04_first.c5_eq, althingref04_first.c6_eq, althingref04_first.c12_eq, althingref04_first.c13_eq, althingref04_first.c14_eq, althingref04_first.c20_eq, althingref04_first.c21_eq, t1, t2, t3, e0, e1, e2, e3, i0, i1, i2, i3, u0, u1, u2, u3, lt128, ge194, le223, ge224, le239, ge240, le244, q224, q237, q240, q244, cond_true, cond_false, Option.bind_some, bif_dec, IntKind.wrap_i64]
  clear t1 t2 t3 e0 e1 e2 e3 i0 i1 i2 i3 u0 u1 u2 u3 lt128 ge194 le223 ge224 le239 ge240 le244 q224 q237 q240 q244
  generalize s.size = n at *
  unfold Lib.decodeN
  (repeat' split) <;> first | rfl | (exfalso; omega) | (simp only [Option.some.injEq, Prod.mk.injEq]; refine ⟨?_, ?_⟩ <;> omega)
set_option maxHeartbeats 8000000 in
set_option maxRecDepth 100000 in
theorem first_6 (k : Nat) (s : ByteArray) (hs : 0 < s.size) (hlo : 238 ≤ (s.get! 0).toNat) (hhi : (s.get! 0).toNat ≤ 239) : althingref04_first (k + 6) s = some (((Utf8.decode s 0).1 : Int), ((Utf8.decode s 0).2 : Int)) := by
  rw [Lib.decode_at]
  have e0 : strAt s 0 = ((s.get! 0).toNat : Int) := strAt_get s 0
  have e1 : strAt s 1 = ((s.get! 1).toNat : Int) := strAt_get s 1
  have e2 : strAt s 2 = ((s.get! 2).toNat : Int) := strAt_get s 2
  have e3 : strAt s 3 = ((s.get! 3).toNat : Int) := strAt_get s 3
  have r0 : (s.get! 0).toNat < 256 := UInt8.toNat_lt _
  have r1 : (s.get! 1).toNat < 256 := UInt8.toNat_lt _
  have r2 : (s.get! 2).toNat < 256 := UInt8.toNat_lt _
  have r3 : (s.get! 3).toNat < 256 := UInt8.toNat_lt _
  have t1 := fun k => tail1 k s
  have t2 := fun k => tail2 k s
  have t3 := fun k => tail3 k s
  have i0 : inI 0 s.size = true := inI_tt hs
  have i1 : inI 1 s.size = decide (1 < s.size) := inI_dec 1 _
  have i2 : inI 2 s.size = decide (2 < s.size) := inI_dec 2 _
  have i3 : inI 3 s.size = decide (3 < s.size) := inI_dec 3 _
  rw [Nat.sub_zero, Nat.zero_add, Nat.zero_add, Nat.zero_add]
  generalize (s.get! 0).toNat = b0 at *
  generalize (s.get! 1).toNat = b1 at *
  generalize (s.get! 2).toNat = b2 at *
  generalize (s.get! 3).toNat = b3 at *
  have u0 := wrapB b0 r0
  have u1 := wrapB b1 r1
  have u2 := wrapB b2 r2
  have u3 := wrapB b3 r3
  have lt128 : decide ((b0 : Int) < 128) = false := decide_eq_false (by omega)
  have ge194 : decide ((b0 : Int) ≥ 194) = true := decide_eq_true (by omega)
  have le223 : decide ((b0 : Int) ≤ 223) = false := decide_eq_false (by omega)
  have ge224 : decide ((b0 : Int) ≥ 224) = true := decide_eq_true (by omega)
  have le239 : decide ((b0 : Int) ≤ 239) = true := decide_eq_true (by omega)
  have ge240 : decide ((b0 : Int) ≥ 240) = false := decide_eq_false (by omega)
  have le244 : decide ((b0 : Int) ≤ 244) = true := decide_eq_true (by omega)
  have q224 : ((b0 : Int) == 224) = false := by rw [beq_eq_false_iff_ne]; omega
  have q237 : ((b0 : Int) == 237) = false := by rw [beq_eq_false_iff_ne]; omega
  have q240 : ((b0 : Int) == 240) = false := by rw [beq_eq_false_iff_ne]; omega
  have q244 : ((b0 : Int) == 244) = false := by rw [beq_eq_false_iff_ne]; omega
  simp only [althingref04_first_eq, althingref04_first.c5_eq, althingref04_first.c6_eq, althingref04_first.c12_eq, althingref04_first.c13_eq, althingref04_first.c14_eq, althingref04_first.c20_eq, althingref04_first.c21_eq, t1, t2, t3, e0, e1, e2, e3, i0, i1, i2, i3, u0, u1, u2, u3, lt128, ge194, le223, ge224, le239, ge240, le244, q224, q237, q240, q244, cond_true, cond_false, Option.bind_some, bif_dec, IntKind.wrap_i64]
  clear t1 t2 t3 e0 e1 e2 e3 i0 i1 i2 i3 u0 u1 u2 u3 lt128 ge194 le223 ge224 le239 ge240 le244 q224 q237 q240 q244
  generalize s.size = n at *
  unfold Lib.decodeN
  (repeat' split) <;> first | rfl | (exfalso; omega) | (simp only [Option.some.injEq, Prod.mk.injEq]; refine ⟨?_, ?_⟩ <;> omega)
set_option maxHeartbeats 8000000 in
set_option maxRecDepth 100000 in
theorem first_7 (k : Nat) (s : ByteArray) (hs : 0 < s.size) (hlo : 240 ≤ (s.get! 0).toNat) (hhi : (s.get! 0).toNat ≤ 240) : althingref04_first (k + 6) s = some (((Utf8.decode s 0).1 : Int), ((Utf8.decode s 0).2 : Int)) := by
  rw [Lib.decode_at]
  have e0 : strAt s 0 = ((s.get! 0).toNat : Int) := strAt_get s 0
  have e1 : strAt s 1 = ((s.get! 1).toNat : Int) := strAt_get s 1
  have e2 : strAt s 2 = ((s.get! 2).toNat : Int) := strAt_get s 2
  have e3 : strAt s 3 = ((s.get! 3).toNat : Int) := strAt_get s 3
  have r0 : (s.get! 0).toNat < 256 := UInt8.toNat_lt _
  have r1 : (s.get! 1).toNat < 256 := UInt8.toNat_lt _
  have r2 : (s.get! 2).toNat < 256 := UInt8.toNat_lt _
  have r3 : (s.get! 3).toNat < 256 := UInt8.toNat_lt _
  have t1 := fun k => tail1 k s
  have t2 := fun k => tail2 k s
  have t3 := fun k => tail3 k s
  have i0 : inI 0 s.size = true := inI_tt hs
  have i1 : inI 1 s.size = decide (1 < s.size) := inI_dec 1 _
  have i2 : inI 2 s.size = decide (2 < s.size) := inI_dec 2 _
  have i3 : inI 3 s.size = decide (3 < s.size) := inI_dec 3 _
  rw [Nat.sub_zero, Nat.zero_add, Nat.zero_add, Nat.zero_add]
  generalize (s.get! 0).toNat = b0 at *
  generalize (s.get! 1).toNat = b1 at *
  generalize (s.get! 2).toNat = b2 at *
  generalize (s.get! 3).toNat = b3 at *
  have u0 := wrapB b0 r0
  have u1 := wrapB b1 r1
  have u2 := wrapB b2 r2
  have u3 := wrapB b3 r3
  have lt128 : decide ((b0 : Int) < 128) = false := decide_eq_false (by omega)
  have ge194 : decide ((b0 : Int) ≥ 194) = true := decide_eq_true (by omega)
  have le223 : decide ((b0 : Int) ≤ 223) = false := decide_eq_false (by omega)
  have ge224 : decide ((b0 : Int) ≥ 224) = true := decide_eq_true (by omega)
  have le239 : decide ((b0 : Int) ≤ 239) = false := decide_eq_false (by omega)
  have ge240 : decide ((b0 : Int) ≥ 240) = true := decide_eq_true (by omega)
  have le244 : decide ((b0 : Int) ≤ 244) = true := decide_eq_true (by omega)
  have q224 : ((b0 : Int) == 224) = false := by rw [beq_eq_false_iff_ne]; omega
  have q237 : ((b0 : Int) == 237) = false := by rw [beq_eq_false_iff_ne]; omega
  have q240 : ((b0 : Int) == 240) = true := by rw [beq_iff_eq]; omega
  have q244 : ((b0 : Int) == 244) = false := by rw [beq_eq_false_iff_ne]; omega
  simp only [althingref04_first_eq, althingref04_first.c5_eq, althingref04_first.c6_eq, althingref04_first.c12_eq, althingref04_first.c13_eq, althingref04_first.c14_eq, althingref04_first.c20_eq, althingref04_first.c21_eq, t1, t2, t3, e0, e1, e2, e3, i0, i1, i2, i3, u0, u1, u2, u3, lt128, ge194, le223, ge224, le239, ge240, le244, q224, q237, q240, q244, cond_true, cond_false, Option.bind_some, bif_dec, IntKind.wrap_i64]
  clear t1 t2 t3 e0 e1 e2 e3 i0 i1 i2 i3 u0 u1 u2 u3 lt128 ge194 le223 ge224 le239 ge240 le244 q224 q237 q240 q244
  generalize s.size = n at *
  unfold Lib.decodeN
  (repeat' split) <;> first | rfl | (exfalso; omega) | (simp only [Option.some.injEq, Prod.mk.injEq]; refine ⟨?_, ?_⟩ <;> omega)
set_option maxHeartbeats 8000000 in
set_option maxRecDepth 100000 in
theorem first_8 (k : Nat) (s : ByteArray) (hs : 0 < s.size) (hlo : 241 ≤ (s.get! 0).toNat) (hhi : (s.get! 0).toNat ≤ 243) : althingref04_first (k + 6) s = some (((Utf8.decode s 0).1 : Int), ((Utf8.decode s 0).2 : Int)) := by
  rw [Lib.decode_at]
  have e0 : strAt s 0 = ((s.get! 0).toNat : Int) := strAt_get s 0
  have e1 : strAt s 1 = ((s.get! 1).toNat : Int) := strAt_get s 1
  have e2 : strAt s 2 = ((s.get! 2).toNat : Int) := strAt_get s 2
  have e3 : strAt s 3 = ((s.get! 3).toNat : Int) := strAt_get s 3
  have r0 : (s.get! 0).toNat < 256 := UInt8.toNat_lt _
  have r1 : (s.get! 1).toNat < 256 := UInt8.toNat_lt _
  have r2 : (s.get! 2).toNat < 256 := UInt8.toNat_lt _
  have r3 : (s.get! 3).toNat < 256 := UInt8.toNat_lt _
  have t1 := fun k => tail1 k s
  have t2 := fun k => tail2 k s
  have t3 := fun k => tail3 k s
  have i0 : inI 0 s.size = true := inI_tt hs
  have i1 : inI 1 s.size = decide (1 < s.size) := inI_dec 1 _
  have i2 : inI 2 s.size = decide (2 < s.size) := inI_dec 2 _
  have i3 : inI 3 s.size = decide (3 < s.size) := inI_dec 3 _
  rw [Nat.sub_zero, Nat.zero_add, Nat.zero_add, Nat.zero_add]
  generalize (s.get! 0).toNat = b0 at *
  generalize (s.get! 1).toNat = b1 at *
  generalize (s.get! 2).toNat = b2 at *
  generalize (s.get! 3).toNat = b3 at *
  have u0 := wrapB b0 r0
  have u1 := wrapB b1 r1
  have u2 := wrapB b2 r2
  have u3 := wrapB b3 r3
  have lt128 : decide ((b0 : Int) < 128) = false := decide_eq_false (by omega)
  have ge194 : decide ((b0 : Int) ≥ 194) = true := decide_eq_true (by omega)
  have le223 : decide ((b0 : Int) ≤ 223) = false := decide_eq_false (by omega)
  have ge224 : decide ((b0 : Int) ≥ 224) = true := decide_eq_true (by omega)
  have le239 : decide ((b0 : Int) ≤ 239) = false := decide_eq_false (by omega)
  have ge240 : decide ((b0 : Int) ≥ 240) = true := decide_eq_true (by omega)
  have le244 : decide ((b0 : Int) ≤ 244) = true := decide_eq_true (by omega)
  have q224 : ((b0 : Int) == 224) = false := by rw [beq_eq_false_iff_ne]; omega
  have q237 : ((b0 : Int) == 237) = false := by rw [beq_eq_false_iff_ne]; omega
  have q240 : ((b0 : Int) == 240) = false := by rw [beq_eq_false_iff_ne]; omega
  have q244 : ((b0 : Int) == 244) = false := by rw [beq_eq_false_iff_ne]; omega
  simp only [althingref04_first_eq, althingref04_first.c5_eq, althingref04_first.c6_eq, althingref04_first.c12_eq, althingref04_first.c13_eq, althingref04_first.c14_eq, althingref04_first.c20_eq, althingref04_first.c21_eq, t1, t2, t3, e0, e1, e2, e3, i0, i1, i2, i3, u0, u1, u2, u3, lt128, ge194, le223, ge224, le239, ge240, le244, q224, q237, q240, q244, cond_true, cond_false, Option.bind_some, bif_dec, IntKind.wrap_i64]
  clear t1 t2 t3 e0 e1 e2 e3 i0 i1 i2 i3 u0 u1 u2 u3 lt128 ge194 le223 ge224 le239 ge240 le244 q224 q237 q240 q244
  generalize s.size = n at *
  unfold Lib.decodeN
  (repeat' split) <;> first | rfl | (exfalso; omega) | (simp only [Option.some.injEq, Prod.mk.injEq]; refine ⟨?_, ?_⟩ <;> omega)
set_option maxHeartbeats 8000000 in
set_option maxRecDepth 100000 in
theorem first_9 (k : Nat) (s : ByteArray) (hs : 0 < s.size) (hlo : 244 ≤ (s.get! 0).toNat) (hhi : (s.get! 0).toNat ≤ 244) : althingref04_first (k + 6) s = some (((Utf8.decode s 0).1 : Int), ((Utf8.decode s 0).2 : Int)) := by
  rw [Lib.decode_at]
  have e0 : strAt s 0 = ((s.get! 0).toNat : Int) := strAt_get s 0
  have e1 : strAt s 1 = ((s.get! 1).toNat : Int) := strAt_get s 1
  have e2 : strAt s 2 = ((s.get! 2).toNat : Int) := strAt_get s 2
  have e3 : strAt s 3 = ((s.get! 3).toNat : Int) := strAt_get s 3
  have r0 : (s.get! 0).toNat < 256 := UInt8.toNat_lt _
  have r1 : (s.get! 1).toNat < 256 := UInt8.toNat_lt _
  have r2 : (s.get! 2).toNat < 256 := UInt8.toNat_lt _
  have r3 : (s.get! 3).toNat < 256 := UInt8.toNat_lt _
  have t1 := fun k => tail1 k s
  have t2 := fun k => tail2 k s
  have t3 := fun k => tail3 k s
  have i0 : inI 0 s.size = true := inI_tt hs
  have i1 : inI 1 s.size = decide (1 < s.size) := inI_dec 1 _
  have i2 : inI 2 s.size = decide (2 < s.size) := inI_dec 2 _
  have i3 : inI 3 s.size = decide (3 < s.size) := inI_dec 3 _
  rw [Nat.sub_zero, Nat.zero_add, Nat.zero_add, Nat.zero_add]
  generalize (s.get! 0).toNat = b0 at *
  generalize (s.get! 1).toNat = b1 at *
  generalize (s.get! 2).toNat = b2 at *
  generalize (s.get! 3).toNat = b3 at *
  have u0 := wrapB b0 r0
  have u1 := wrapB b1 r1
  have u2 := wrapB b2 r2
  have u3 := wrapB b3 r3
  have lt128 : decide ((b0 : Int) < 128) = false := decide_eq_false (by omega)
  have ge194 : decide ((b0 : Int) ≥ 194) = true := decide_eq_true (by omega)
  have le223 : decide ((b0 : Int) ≤ 223) = false := decide_eq_false (by omega)
  have ge224 : decide ((b0 : Int) ≥ 224) = true := decide_eq_true (by omega)
  have le239 : decide ((b0 : Int) ≤ 239) = false := decide_eq_false (by omega)
  have ge240 : decide ((b0 : Int) ≥ 240) = true := decide_eq_true (by omega)
  have le244 : decide ((b0 : Int) ≤ 244) = true := decide_eq_true (by omega)
  have q224 : ((b0 : Int) == 224) = false := by rw [beq_eq_false_iff_ne]; omega
  have q237 : ((b0 : Int) == 237) = false := by rw [beq_eq_false_iff_ne]; omega
  have q240 : ((b0 : Int) == 240) = false := by rw [beq_eq_false_iff_ne]; omega
  have q244 : ((b0 : Int) == 244) = true := by rw [beq_iff_eq]; omega
  simp only [althingref04_first_eq, althingref04_first.c5_eq, althingref04_first.c6_eq, althingref04_first.c12_eq, althingref04_first.c13_eq, althingref04_first.c14_eq, althingref04_first.c20_eq, althingref04_first.c21_eq, t1, t2, t3, e0, e1, e2, e3, i0, i1, i2, i3, u0, u1, u2, u3, lt128, ge194, le223, ge224, le239, ge240, le244, q224, q237, q240, q244, cond_true, cond_false, Option.bind_some, bif_dec, IntKind.wrap_i64]
  clear t1 t2 t3 e0 e1 e2 e3 i0 i1 i2 i3 u0 u1 u2 u3 lt128 ge194 le223 ge224 le239 ge240 le244 q224 q237 q240 q244
  generalize s.size = n at *
  unfold Lib.decodeN
  (repeat' split) <;> first | rfl | (exfalso; omega) | (simp only [Option.some.injEq, Prod.mk.injEq]; refine ⟨?_, ?_⟩ <;> omega)
set_option maxHeartbeats 8000000 in
set_option maxRecDepth 100000 in
theorem first_10 (k : Nat) (s : ByteArray) (hs : 0 < s.size) (hlo : 245 ≤ (s.get! 0).toNat) (hhi : (s.get! 0).toNat ≤ 255) : althingref04_first (k + 6) s = some (((Utf8.decode s 0).1 : Int), ((Utf8.decode s 0).2 : Int)) := by
  rw [Lib.decode_at]
  have e0 : strAt s 0 = ((s.get! 0).toNat : Int) := strAt_get s 0
  have e1 : strAt s 1 = ((s.get! 1).toNat : Int) := strAt_get s 1
  have e2 : strAt s 2 = ((s.get! 2).toNat : Int) := strAt_get s 2
  have e3 : strAt s 3 = ((s.get! 3).toNat : Int) := strAt_get s 3
  have r0 : (s.get! 0).toNat < 256 := UInt8.toNat_lt _
  have r1 : (s.get! 1).toNat < 256 := UInt8.toNat_lt _
  have r2 : (s.get! 2).toNat < 256 := UInt8.toNat_lt _
  have r3 : (s.get! 3).toNat < 256 := UInt8.toNat_lt _
  have t1 := fun k => tail1 k s
  have t2 := fun k => tail2 k s
  have t3 := fun k => tail3 k s
  have i0 : inI 0 s.size = true := inI_tt hs
  have i1 : inI 1 s.size = decide (1 < s.size) := inI_dec 1 _
  have i2 : inI 2 s.size = decide (2 < s.size) := inI_dec 2 _
  have i3 : inI 3 s.size = decide (3 < s.size) := inI_dec 3 _
  rw [Nat.sub_zero, Nat.zero_add, Nat.zero_add, Nat.zero_add]
  generalize (s.get! 0).toNat = b0 at *
  generalize (s.get! 1).toNat = b1 at *
  generalize (s.get! 2).toNat = b2 at *
  generalize (s.get! 3).toNat = b3 at *
  have u0 := wrapB b0 r0
  have u1 := wrapB b1 r1
  have u2 := wrapB b2 r2
  have u3 := wrapB b3 r3
  have lt128 : decide ((b0 : Int) < 128) = false := decide_eq_false (by omega)
  have ge194 : decide ((b0 : Int) ≥ 194) = true := decide_eq_true (by omega)
  have le223 : decide ((b0 : Int) ≤ 223) = false := decide_eq_false (by omega)
  have ge224 : decide ((b0 : Int) ≥ 224) = true := decide_eq_true (by omega)
  have le239 : decide ((b0 : Int) ≤ 239) = false := decide_eq_false (by omega)
  have ge240 : decide ((b0 : Int) ≥ 240) = true := decide_eq_true (by omega)
  have le244 : decide ((b0 : Int) ≤ 244) = false := decide_eq_false (by omega)
  have q224 : ((b0 : Int) == 224) = false := by rw [beq_eq_false_iff_ne]; omega
  have q237 : ((b0 : Int) == 237) = false := by rw [beq_eq_false_iff_ne]; omega
  have q240 : ((b0 : Int) == 240) = false := by rw [beq_eq_false_iff_ne]; omega
  have q244 : ((b0 : Int) == 244) = false := by rw [beq_eq_false_iff_ne]; omega
  simp only [althingref04_first_eq, althingref04_first.c5_eq, althingref04_first.c6_eq, althingref04_first.c12_eq, althingref04_first.c13_eq, althingref04_first.c14_eq, althingref04_first.c20_eq, althingref04_first.c21_eq, t1, t2, t3, e0, e1, e2, e3, i0, i1, i2, i3, u0, u1, u2, u3, lt128, ge194, le223, ge224, le239, ge240, le244, q224, q237, q240, q244, cond_true, cond_false, Option.bind_some, bif_dec, IntKind.wrap_i64]
  clear t1 t2 t3 e0 e1 e2 e3 i0 i1 i2 i3 u0 u1 u2 u3 lt128 ge194 le223 ge224 le239 ge240 le244 q224 q237 q240 q244
  generalize s.size = n at *
  unfold Lib.decodeN
  (repeat' split) <;> first | rfl | (exfalso; omega) | (simp only [Option.some.injEq, Prod.mk.injEq]; refine ⟨?_, ?_⟩ <;> omega)
theorem first_is (k : Nat) (s : ByteArray) (hs : 0 < s.size) : althingref04_first (k + 6) s = some (((Utf8.decode s 0).1 : Int), ((Utf8.decode s 0).2 : Int)) := by
  have r0 : (s.get! 0).toNat < 256 := UInt8.toNat_lt _
  by_cases h0 : (s.get! 0).toNat ≤ 127
  · exact first_0 k s hs (by omega) h0
  by_cases h1 : (s.get! 0).toNat ≤ 193
  · exact first_1 k s hs (by omega) h1
  by_cases h2 : (s.get! 0).toNat ≤ 223
  · exact first_2 k s hs (by omega) h2
  by_cases h3 : (s.get! 0).toNat ≤ 224
  · exact first_3 k s hs (by omega) h3
  by_cases h4 : (s.get! 0).toNat ≤ 236
  · exact first_4 k s hs (by omega) h4
  by_cases h5 : (s.get! 0).toNat ≤ 237
  · exact first_5 k s hs (by omega) h5
  by_cases h6 : (s.get! 0).toNat ≤ 239
  · exact first_6 k s hs (by omega) h6
  by_cases h7 : (s.get! 0).toNat ≤ 240
  · exact first_7 k s hs (by omega) h7
  by_cases h8 : (s.get! 0).toNat ≤ 243
  · exact first_8 k s hs (by omega) h8
  by_cases h9 : (s.get! 0).toNat ≤ 244
  · exact first_9 k s hs (by omega) h9
  exact first_10 k s hs (by omega) (by omega)
theorem ext_ext (s : ByteArray) (pos k : Nat) (h : pos + k ≤ s.size) : (s.extract pos s.size).extract k (s.extract pos s.size).size = s.extract (pos + k) s.size := by
  rw [Lib.tail_size]
  apply ByteArray.ext
  rw [ByteArray.data_extract, ByteArray.data_extract, ByteArray.data_extract, Array.extract_extract]
  congr 1
  omega
theorem decode_fits (s : ByteArray) (i : Nat) (h : i < s.size) : i + (Utf8.decode s i).2 ≤ s.size := by
  rw [Lib.decode_at]
  unfold Lib.decodeN
  (repeat' split) <;> simp only <;> omega
theorem refRunes_loop (s : ByteArray) (hs : s.size ≤ 4000000) : ∀ d i (acc : List Int), s.size ≤ i + d → i ≤ s.size → acc.length ≤ i → Ev (fun k => althingref04_Runes.c2 k (s.extract i s.size) acc) (acc ++ runesFrom s d i)
  | 0, i, acc, h1, h2, h3 => by
    refine Ev.step (fun k => althingref04_Runes.c2_eq k _ _) (Ev.bif_ff (decide_eq_false (by rw [Lib.tail_size]; omega)) ?_)
    rw [runesFrom, List.append_nil]
    exact Ev.some _
  | d + 1, i, acc, h1, h2, h3 => by
    unfold runesFrom
    by_cases h : i < s.size
    · have hd : Utf8.decode (s.extract i s.size) 0 = Utf8.decode s i := by rw [Lib.tail_decode, Nat.add_zero]
      have hw := decode_fits s i h
      have hw1 := decode_wide s i
      have ih := refRunes_loop s hs d (i + (Utf8.decode s i).2) (acc ++ [((Utf8.decode s i).1 : Int)]) (by omega) hw (by rw [List.length_append]; show acc.length + 1 ≤ _; omega)
      have hz : (s.extract i s.size).size = s.size - i := Lib.tail_size s i
      refine Ev.step (fun k => althingref04_Runes.c2_eq k _ _) (Ev.bif_tt (decide_eq_true (by rw [hz]; omega)) ?_)
      refine Ev.bind (a := (((Utf8.decode s i).1 : Int), ((Utf8.decode s i).2 : Int))) ⟨6, fun k hk => ?_⟩ ?_
      · obtain ⟨j, rfl⟩ : ∃ j, k = j + 6 := ⟨k - 6, by omega⟩
        show althingref04_first (j + 6) (s.extract i s.size) = _
        rw [first_is j _ (by rw [hz]; omega), hd]
      · refine Ev.bif_tt (lt32 (by omega)) (Ev.bif_tt ?_ ?_)
        · rw [hz, decide_eq_true (by show (0 : Int) ≤ ((Utf8.decode s i).2 : Int); omega), decide_eq_true (by show ((Utf8.decode s i).2 : Int) ≤ _; omega), decide_eq_true (Int.le_refl _)]; rfl
        · rw [decide_eq_true h, cond_true]
          show Ev (fun k => althingref04_Runes.c2 k (ByteArray.extract (s.extract i s.size) (Int.toNat ((Utf8.decode s i).2 : Int)) (Int.toNat ((s.extract i s.size).size : Int))) (acc ++ [((Utf8.decode s i).1 : Int)])) _
          rw [Int.toNat_natCast, Int.toNat_natCast, ext_ext s i _ hw]
          simpa using ih
    · refine Ev.step (fun k => althingref04_Runes.c2_eq k _ _) (Ev.bif_ff (decide_eq_false (by rw [Lib.tail_size]; omega)) ?_)
      rw [decide_eq_false h, cond_false, List.append_nil]
      exact Ev.some _
theorem refRunes_is (s : ByteArray) (hs : s.size ≤ 4000000) : Ev (fun k => althingref04_Runes k s) (runesL s) := by
  refine Ev.congr (althingref04_Runes_eq · s) ?_
  have := refRunes_loop s hs s.size 0 [] (by omega) (Nat.zero_le _) (Nat.le_refl _)
  rw [ByteArray.extract_zero_size] at this
  exact this
end Go.Proofs.YtigimlfelogdlaaGreatDoor.V
end
section
namespace Go.Proofs.YtigimlfelogdlaaGreatDoor.V
open Go Go.Vm
set_option linter.unusedVariables false
set_option linter.unusedSimpArgs false
def splitAdd (c : UInt8) (acc : List (List UInt8)) (b : UInt8) : List (List UInt8) := bif b == c then acc ++ [[]] else acc.set (acc.length - 1) (acc.getD (acc.length - 1) [] ++ [b])
theorem splitAdd_fold (c : UInt8) : ∀ (l : List UInt8) (done : List (List UInt8)) (cur : List UInt8), l.foldl (splitAdd c) (done ++ [cur]) = done ++ ((cur ++ (pieces c l).1) :: (pieces c l).2)
  | [], done, cur => by simp [pieces]
  | b :: l, done, cur => by
    rw [List.foldl_cons, pieces_step]
    unfold splitAdd
    cases h : b == c with
    | true =>
      simp only [cond_true]
      rw [show done ++ [cur] ++ [[]] = (done ++ [cur]) ++ [[]] from rfl]
      have := splitAdd_fold c l (done ++ [cur]) []
      unfold splitAdd at this
      rw [this]
      simp
    | false =>
      simp only [cond_false]
      have e : (done ++ [cur]).set ((done ++ [cur]).length - 1) ((done ++ [cur]).getD ((done ++ [cur]).length - 1) [] ++ [b]) = done ++ [cur ++ [b]] := by
        rw [List.length_append, List.length_singleton, Nat.add_sub_cancel, List.set_append_right _ _ (Nat.le_refl _), Nat.sub_self]
        simp [List.getD_eq_getElem?_getD]
      rw [e]
      have := splitAdd_fold c l done (cur ++ [b])
      unfold splitAdd at this
      rw [this]
      simp
theorem splitAdd_all (c : UInt8) (l : List UInt8) : l.foldl (splitAdd c) [[]] = splitL c l := by
  have := splitAdd_fold c l [] []
  simpa [splitL] using this
theorem fold_small (c : UInt8) : ∀ (l : List UInt8), l.foldl (splitAdd c) [[]] ≠ [] := fun l h => by rw [splitAdd_all] at h; cases h
theorem ofL_append (a b : List UInt8) : ofL a ++ ofL b = ofL (a ++ b) := by
  apply ByteArray.ext
  rw [ByteArray.data_append]
  simp [ofL]
theorem foldl_take {α σ : Type} (f : σ → α → σ) (s : σ) (l : List α) (i : Nat) (h : i < l.length) : (l.take (i + 1)).foldl f s = f ((l.take i).foldl f s) l[i] := by
  rw [List.take_succ_eq_append_getElem h, List.foldl_append]; rfl
theorem split_loop (s : ByteArray) (hs : s.size ≤ 4000000) (c : UInt8) : ∀ d i, i + d = s.size →
    Ev (fun k => althingref21_split.c3 k s (c.toNat : Int) (((s.data.toList.take i).foldl (splitAdd c) [[]]).map ofL) (i : Int)) ((splitL c s.data.toList).map ofL)
  | 0, i, h => by
    refine Ev.step (fun k => althingref21_split.c3_eq k _ _ _ _) (Ev.bif_ff (lt_ff (by omega)) ?_)
    rw [List.take_of_length_le (by rw [← size_list]; omega), splitAdd_all]
    exact Ev.some _
  | d + 1, i, h => by
    have hi : i < s.size := by omega
    have hl : i < s.data.toList.length := by rw [← size_list]; exact hi
    have ih := split_loop s hs c d (i + 1) (by omega)
    rw [foldl_take _ _ _ _ hl] at ih
    have hlen := split_len c (ofL (s.data.toList.take i))
    have hne := fold_small c (s.data.toList.take i)
    have hb0 : (splitL c (s.data.toList.take i)) = (s.data.toList.take i).foldl (splitAdd c) [[]] := (splitAdd_all c _).symm
    have hacc : ((s.data.toList.take i).foldl (splitAdd c) [[]]).length ≤ i + 1 := by
      rw [← hb0]
      have := splitL_len c (s.data.toList.take i)
      have := List.length_take_le i s.data.toList
      omega
    have hmem : ∀ p ∈ (s.data.toList.take i).foldl (splitAdd c) [[]], p.length ≤ i := fun p hp => by
      rw [← hb0] at hp
      have := splitL_mem hp
      have := List.length_take_le i s.data.toList
      omega
    generalize (s.data.toList.take i).foldl (splitAdd c) [[]] = acc at ih hne hacc hmem ⊢
    have hal : 1 ≤ acc.length := by cases acc with | nil => exact absurd rfl hne | cons => simp
    have hbyte : strAt s (i : Int) = ((s.data.toList[i]).toNat : Int) := by rw [strAt_get, get_at hi]
    refine Ev.step (fun k => althingref21_split.c3_eq k _ _ _ _) (Ev.bif_tt (lt_tt hi) (Ev.bif_tt (inI_tt hi) ?_))
    rw [hbyte, wrap_at (by omega)]
    have hml : (acc.map ofL).length = acc.length := List.length_map _
    unfold splitAdd at ih
    by_cases hc : s.data.toList[i] = c
    · rw [hc] at ih ⊢
      rw [beq_self_eq_true, cond_true, List.map_append] at ih
      exact Ev.bif_tt (beq_self_eq_true _) (Ev.bif_tt (lt32 (by rw [hml]; omega)) ih)
    · have hbn : ((s.data.toList[i]).toNat : Int) ≠ (c.toNat : Int) := fun e => hc (UInt8.toNat_inj.1 (by exact_mod_cast e))
      rw [show (s.data.toList[i] == c) = false from beq_eq_false_iff_ne.2 hc, cond_false] at ih
      have ew : IntKind.wrap .i64 (((acc.map ofL).length : Int) - 1) = ((acc.length - 1 : Nat) : Int) := by rw [hml, wrap_id (by omega) (by omega)]; omega
      have hlt : acc.length - 1 < (acc.map ofL).length := by rw [hml]; omega
      refine Ev.bif_ff (beq_eq_false_iff_ne.2 hbn) ?_
      rw [ew]
      refine Ev.bif_tt (inI_tt hlt) (Ev.bif_tt (inI_tt hlt) (Ev.bif_tt ?_ ?_))
      · rw [decide_eq_true (by omega : (0 : Int) ≤ (i : Int)), decide_eq_true (by omega : (i : Int) ≤ ((i + 1 : Nat) : Int)), decide_eq_true (by omega : ((i + 1 : Nat) : Int) ≤ (s.size : Int))]; rfl
      · rw [getD_at hlt]
        have hgm : (acc.map ofL)[acc.length - 1] = ofL (acc[acc.length - 1]'(by omega)) := List.getElem_map _
        have hsz : (ofL (acc[acc.length - 1]'(by omega))).size ≤ i := by
          have := hmem _ (List.getElem_mem (by omega : acc.length - 1 < acc.length))
          show (acc[acc.length - 1]'(by omega)).toArray.size ≤ i
          simpa using this
        have hex : ByteArray.extract s (Int.toNat (i : Int)) (Int.toNat ((i + 1 : Nat) : Int)) = ofL [s.data.toList[i]] := by
          rw [Int.toNat_natCast, Int.toNat_natCast]
          apply ByteArray.ext
          rw [ByteArray.data_extract]
          apply Array.ext'
          rw [Array.toList_extract]
          show List.take (i + 1 - i) (List.drop i s.data.toList) = [s.data.toList[i]]
          rw [Nat.add_sub_cancel_left, List.drop_eq_getElem_cons hl]; rfl
        rw [hgm, hex]
        refine Ev.bif_tt (decide_eq_true ?_) (Ev.bif_tt (inI_tt hlt) (Ev.bif_tt (inI_tt hlt) ?_))
        · show _ + 1 < 4294967296
          omega
        · rw [Int.toNat_natCast, ofL_append]
          have e : (acc.map ofL).set (acc.length - 1) (ofL (acc[acc.length - 1]'(by omega) ++ [s.data.toList[i]])) = (acc.set (acc.length - 1) (acc.getD (acc.length - 1) [] ++ [s.data.toList[i]])).map ofL := by
            rw [List.map_set]
            congr 3
            rw [List.getD_eq_getElem?_getD, List.getElem?_eq_getElem (by omega)]; rfl
          rw [e]
          exact ih
theorem ref_split_is (s : ByteArray) (hs : s.size ≤ 4000000) (c : UInt8) : Ev (fun k => althingref21_split k s (c.toNat : Int)) ((splitL c s.data.toList).map ofL) := by
  refine Ev.congr (althingref21_split_eq · s _) ?_
  have := split_loop s hs c s.size 0 (by omega)
  simpa [ofL] using this
theorem ref_Parts_is (s : ByteArray) (hs : s.size ≤ 4000000) : Ev (fun k => althingref21_Parts k s) (words s) :=
  Ev.congr (althingref21_Parts_eq · s) (Ev.ret (ref_split_is s hs 32))
theorem numGo_far : ∀ (l : List UInt8) (n : Int) (c : Nat), 9 < c + l.length → numGo l n c = (0, false) ∨ 9 < c
  | [], n, c, h => .inr (by simpa using h)
  | b :: l, n, c, h => by
    unfold numGo
    cases decide (b.toNat < 48) || decide (57 < b.toNat) with
    | true => exact .inl rfl
    | false =>
      by_cases hc : 9 < c + 1
      · rw [decide_eq_true hc]; exact .inl rfl
      · rw [decide_eq_false hc]
        rcases numGo_far l (10 * n + ((b.toNat : Int) - 48)) (c + 1) (by rw [List.length_cons] at h; omega) with h1 | h1
        · exact .inl h1
        · exact absurd h1 hc
theorem ref_number_loop (s : ByteArray) : ∀ d i (n : Int), i + d = s.size → s.size ≤ 9 → 0 < s.size → 0 ≤ n → n < 10 ^ i → Ev (fun k => althingref21_Number.c5 k s n (i : Int)) (numGo (s.data.toList.drop i) n i)
  | 0, i, n, h, h9, h0, hn, hlt => by
    refine Ev.step (fun k => althingref21_Number.c5_eq k _ _ _) (Ev.bif_ff (lt_ff (by omega)) ?_)
    rw [List.drop_eq_nil_of_le (by rw [← size_list]; omega)]
    unfold numGo
    rw [decide_eq_true (by omega : 0 < i)]
    exact Ev.some _
  | d + 1, i, n, h, h9, h0, hn, hlt => by
    have hi : i < s.size := by omega
    have hl : i < s.data.toList.length := by rw [← size_list]; exact hi
    have hbyte : strAt s (i : Int) = ((s.data.toList[i]).toNat : Int) := by rw [strAt_get, get_at hi]
    refine Ev.step (fun k => althingref21_Number.c5_eq k _ _ _) (Ev.bif_tt (lt_tt hi) (Ev.bif_tt (inI_tt hi) ?_))
    rw [List.drop_eq_getElem_cons hl, hbyte]
    unfold numGo
    generalize s.data.toList[i] = b at hbyte ⊢
    have h256 : b.toNat < 256 := UInt8.toNat_lt _
    by_cases h48 : b.toNat < 48
    · rw [decide_eq_true h48]
      exact Ev.bif_tt (decide_eq_true (by omega)) (Ev.some _)
    · refine Ev.bif_ff (decide_eq_false (by omega)) (Ev.bif_tt (inI_tt hi) ?_)
      by_cases h57 : 57 < b.toNat
      · rw [decide_eq_true h57, Bool.or_true]
        exact Ev.bif_tt (decide_eq_true (by omega)) (Ev.some _)
      · refine Ev.bif_ff (decide_eq_false (by omega)) (Ev.step (fun k => althingref21_Number.c9_eq k _ _ _) (Ev.bif_tt (inI_tt hi) ?_))
        rw [decide_eq_false h48, decide_eq_false h57, decide_eq_false (by omega : ¬ 9 < i + 1), hbyte]
        have hp : (10 : Int) ^ i ≤ 10 ^ 8 := by
          have : (10 : Nat) ^ i ≤ 10 ^ 8 := Nat.pow_le_pow_right (by omega) (by omega)
          exact_mod_cast this
        have h8 : (10 : Int) ^ 8 = 100000000 := by decide
        rw [wrap_id (x := n * 10) (by omega) (by omega), wrap_id (x := (b.toNat : Int)) (by omega) (by omega), wrap_id (x := n * 10 + (b.toNat : Int)) (by omega) (by omega), wrap_id (x := n * 10 + (b.toNat : Int) - 48) (by omega) (by omega), wrap_at (by omega)]
        have e : n * 10 + (b.toNat : Int) - 48 = 10 * n + ((b.toNat : Int) - 48) := by omega
        rw [e]
        exact ref_number_loop s d (i + 1) _ (by omega) h9 h0 (by omega) (by rw [Int.pow_succ]; omega)
theorem ref_Number_is (s : ByteArray) : Ev (fun k => althingref21_Number k s) (numOfB s) := by
  refine Ev.congr (althingref21_Number_eq · s) ?_
  unfold numOfB
  by_cases h0 : s.size = 0
  · have : s.data.toList = [] := List.eq_nil_of_length_eq_zero (by rw [← size_list]; exact h0)
    rw [this]
    exact Ev.bif_tt (by rw [beq_iff_eq]; omega) (Ev.some _)
  · refine Ev.bif_ff (by rw [beq_eq_false_iff_ne]; omega) ?_
    by_cases h9 : s.size ≤ 9
    · exact Ev.bif_ff (decide_eq_false (by omega)) (by simpa using ref_number_loop s s.size 0 0 (by omega) h9 (by omega) (by omega) (by decide))
    · refine Ev.bif_tt (decide_eq_true (by omega)) ?_
      rcases numGo_far s.data.toList 0 0 (by rw [← size_list]; omega) with h | h
      · rw [h]; exact Ev.some _
      · omega
end Go.Proofs.YtigimlfelogdlaaGreatDoor.V
end
section
namespace Go.Proofs.YtigimlfelogdlaaGreatDoor.V
open Go Go.Vm
set_option linter.unusedVariables false
set_option linter.unusedSimpArgs false
def zipT : List Bool → List ByteArray → St'
  | true :: ks, w :: ws => .inl (numOfB w).1 :: zipT ks ws
  | false :: ks, w :: ws => .inr w :: zipT ks ws
  | _, _ => []
theorem partOf_num {w : ByteArray} (h : (numOfB w).2 = true) : partOf w = some (.inl (numOfB w).1) := by unfold partOf; rw [h]; rfl
theorem partOf_word {w : ByteArray} (h : (numOfB w).2 = false) : partOf w = some (.inr w) := by unfold partOf; rw [h]; rfl
theorem takeGo_zip : ∀ (ks : List Bool) (ws : List ByteArray), fitB ks (ws.map partOf) = true → takeGo (ws.map partOf) ws ks = some (true, zipT ks ws)
  | [], [], _ => rfl
  | [], w :: ws, h => by cases h
  | true :: ks, [], h => by cases h
  | false :: ks, [], h => by cases h
  | true :: ks, w :: ws, h => by
    rw [List.map_cons] at h ⊢
    cases hn : (numOfB w).2 with
    | false => rw [partOf_word hn] at h; cases h
    | true =>
      rw [partOf_num hn] at h ⊢
      have ih := takeGo_zip ks ws h
      simp only [takeGo, List.tail_cons, ih, zipT]
  | false :: ks, w :: ws, h => by
    have h : fitB ks (ws.map partOf) = true := by
      rw [List.map_cons] at h
      rw [← h]
      cases partOf w <;> rfl
    have ih := takeGo_zip ks ws h
    simp only [List.map_cons, takeGo, ih, zipT]
theorem takeT_zip {ks : List Bool} {ws : List ByteArray} (hk : ks.length ≤ 100) (h : fitB ks (ws.map partOf) = true) : takeT (ws.map partOf) ws ks = (true, zipT ks ws) := by
  unfold takeT script_take.f
  rw [Nat.ble_eq_true_of_le hk, fitB_len _ _ h, Nat.beq_refl]
  simp only [cond_true]
  rw [takeGo_zip ks ws h]; rfl
def okK (p : Bool × ByteArray) : Bool := !p.1 || (numOfB p.2).2
theorem fitB_all : ∀ (ks : List Bool) (ws : List ByteArray), ks.length = ws.length → fitB ks (ws.map partOf) = (ks.zip ws).all okK
  | [], [], _ => rfl
  | true :: ks, w :: ws, h => by
    rw [List.map_cons, List.zip_cons_cons, List.all_cons, ← fitB_all ks ws (by simpa using h)]
    unfold okK
    cases hn : (numOfB w).2 with
    | false => rw [partOf_word hn]; rfl
    | true => rw [partOf_num hn]; rfl
  | false :: ks, w :: ws, h => by
    rw [List.map_cons, List.zip_cons_cons, List.all_cons, ← fitB_all ks ws (by simpa using h)]
    cases partOf w <;> rfl
theorem stepOf_fit {v : Int} {ws : List ByteArray} (h : fitB (kindsB v) (ws.map partOf) = true) (hk : (kindsB v).length ≤ 100) : stepOf v (ws.map partOf) ws = (mkStep v (zipT (kindsB v) ws), true) := by
  unfold stepOf
  rw [takeT_zip hk h]; rfl
theorem stepOf_bad {v : Int} {ws : List ByteArray} (h : fitB (kindsB v) (ws.map partOf) = false) (hk : (kindsB v).length ≤ 100) : stepOf v (ws.map partOf) ws = (none_, false) := by
  unfold stepOf
  rw [takeT_fit hk (fun i hi e => by
    have := (List.getElem?_eq_some_iff.1 hi).1
    rw [List.length_map] at e
    omega), h]
  rfl
def kbOf (ks : ByteArray) : List Bool := ks.data.toList.map (· == 110)
theorem c17_loop (p0 : ByteArray) (ws : List ByteArray) (hws : ∀ w ∈ ws, w.size ≤ 4000000) (hl : ws.length ≤ 100) (v : Int) (ks : ByteArray) (b2 : Sp) (E : List Int → Sp) (hk : ks.size = ws.length)
    (hE : ∀ n : List Int, n.length = ws.length → Ev (fun k => althingref21_Step.c17 k (p0 :: ws) v ks n (ws.length : Int) b2 none_) (E n, true)) :
    ∀ d i (acc : List Int), i + d = ws.length → acc.length = i → Ev (fun k => althingref21_Step.c17 k (p0 :: ws) v ks acc (i : Int) b2 none_) (bif (((kbOf ks).drop i).zip (ws.drop i)).all okK then (E (acc ++ (ws.drop i).map fun w => (numOfB w).1), true) else (none_, false))
  | 0, i, acc, h, ha => by
    obtain rfl : i = ws.length := by omega
    rw [List.drop_length, List.zip_nil_right, List.all_nil, cond_true, List.map_nil, List.append_nil]
    exact hE acc ha
  | d + 1, i, acc, h, ha => by
    have hi : i < ws.length := by omega
    have hik : i < ks.size := by omega
    have hkl : i < (kbOf ks).length := by unfold kbOf; rw [List.length_map, ← size_list]; exact hik
    have ih := c17_loop p0 ws hws hl v ks b2 E hk hE d (i + 1) (acc ++ [(numOfB ws[i]).1]) (by omega) (by rw [List.length_append, ha]; rfl)
    refine Ev.step (fun k => althingref21_Step.c17_eq k _ _ _ _ _ _ _) (Ev.bif_tt (lt_tt hik) ?_)
    rw [wrap_at (by omega)]
    have hi1 : i + 1 < (p0 :: ws).length := by rw [List.length_cons]; omega
    refine Ev.bif_tt (inI_tt hi1) ?_
    rw [getD_at hi1, List.getElem_cons_succ]
    refine Ev.bind (ref_Number_is ws[i]) (Ev.bif_tt (inI_tt hik) ?_)
    have hkb : (kbOf ks)[i] = (ks.data.toList[i]'(by rw [← size_list]; exact hik) == 110) := List.getElem_map _
    have hbyte : strAt ks (i : Int) = ((ks.data.toList[i]'(by rw [← size_list]; exact hik)).toNat : Int) := by rw [strAt_get, get_at hik]
    rw [List.drop_eq_getElem_cons hi, List.drop_eq_getElem_cons hkl, List.zip_cons_cons, List.all_cons, List.map_cons]
    have hnext : Ev (fun k => althingref21_Step.c22 k (p0 :: ws) v ks acc (i : Int) (numOfB ws[i]).1 b2 none_) (bif (((kbOf ks).drop (i + 1)).zip (ws.drop (i + 1))).all okK then (E (acc ++ (numOfB ws[i]).1 :: (ws.drop (i + 1)).map fun w => (numOfB w).1), true) else (none_, false)) := by
      refine Ev.step (fun k => althingref21_Step.c22_eq k _ _ _ _ _ _ _ _) (Ev.bif_tt (lt32 (by omega)) ?_)
      rw [wrap_at (by omega)]
      simpa using ih
    have hbq : (strAt ks (i : Int) == 110) = (kbOf ks)[i] := by
      rw [hkb, hbyte]
      rw [Bool.eq_iff_iff, beq_iff_eq, beq_iff_eq]
      exact ⟨fun e => UInt8.toNat_inj.1 (by exact_mod_cast e), fun e => by rw [e]; rfl⟩
    rw [hbq]
    unfold okK
    cases hb : (kbOf ks)[i] with
    | false => exact Ev.bif_ff rfl hnext
    | true =>
      refine Ev.bif_tt rfl ?_
      cases hn : (numOfB ws[i]).2 with
      | false => exact Ev.bif_tt rfl (Ev.some _)
      | true => exact Ev.bif_ff rfl hnext
theorem verb_1 (p0 : ByteArray) (ws : List ByteArray) (hws : ∀ w ∈ ws, w.size ≤ 4000000) (rs : List Int) (b2 : Sp) : Ev (fun k => althingref21_Step.c5 k (p0 :: ws) rs 1 18 b2) (stepOf 1 (ws.map partOf) ws) := by
  refine Ev.step (fun k => althingref21_Step.c5_eq k _ _ _ _ _) (Ev.bif_ff (by decide) (Ev.bif_ff (by decide) (Ev.bind (a := (⟨#[110]⟩ : ByteArray)) (Ev.at_ fun k => (althingref21_kinds_eq k 1).trans (by kernel_rfl)) ?_)))
  have hkb : kindsB 1 = kbOf ⟨#[110]⟩ := by decide
  by_cases hl : ws.length = 1
  · match ws, hl with
    | [w0], _ =>
      refine Ev.bif_ff (by kernel_rfl) ?_
      have := c17_loop p0 [w0] hws (by show 1 ≤ 100; omega) 1 ⟨#[110]⟩ b2 (fun n => match n with | [n0] => (1, n0, 0, 0, 0, 0, 0, ⟨#[]⟩, ⟨#[]⟩) | _ => none_) rfl (fun n hn => by
        match n, hn with
        | [n0], _ => exact ⟨12, fun k hk => by
          obtain ⟨j, rfl⟩ : ∃ j, k = j + 12 := ⟨k - 12, by omega⟩
          show althingref21_Step.c17 (j + 12) [p0, w0] 1 ⟨#[110]⟩ [n0] 1 b2 none_ = some ((1, n0, 0, 0, 0, 0, 0, ⟨#[]⟩, ⟨#[]⟩), true)
          kernel_rfl⟩) 1 0 [] rfl rfl
      refine Ev.to this ?_
      have hf := fitB_all (kindsB 1) [w0] rfl
      cases hfit : fitB (kindsB 1) ([w0].map partOf) with
      | true =>
        rw [stepOf_fit hfit (by decide)]
        rw [hf, hkb] at hfit
        rw [List.drop_zero, List.drop_zero, hfit]
        rfl
      | false =>
        rw [stepOf_bad hfit (by decide)]
        rw [hf, hkb] at hfit
        rw [List.drop_zero, List.drop_zero, hfit]
        rfl
  · refine Ev.bif_tt ?_ ?_
    · rw [bne_iff_ne]
      show ((p0 :: ws).length : Int) ≠ 2
      rw [List.length_cons]
      omega
    · rw [stepOf_bad (by
        cases hfit : fitB (kindsB 1) (ws.map partOf) with
        | false => rfl
        | true =>
          have := fitB_len _ _ hfit
          rw [List.length_map] at this
          exact absurd this hl) (by decide)]
      exact Ev.some _
theorem verb_2 (p0 : ByteArray) (ws : List ByteArray) (hws : ∀ w ∈ ws, w.size ≤ 4000000) (rs : List Int) (b2 : Sp) : Ev (fun k => althingref21_Step.c5 k (p0 :: ws) rs 2 18 b2) (stepOf 2 (ws.map partOf) ws) := by
  refine Ev.step (fun k => althingref21_Step.c5_eq k _ _ _ _ _) (Ev.bif_ff (by decide) (Ev.bif_ff (by decide) (Ev.bind (a := (⟨#[110, 119, 110]⟩ : ByteArray)) (Ev.at_ fun k => (althingref21_kinds_eq k 2).trans (by kernel_rfl)) ?_)))
  have hkb : kindsB 2 = kbOf ⟨#[110, 119, 110]⟩ := by decide
  by_cases hl : ws.length = 3
  · match ws, hl with
    | [w0, w1, w2], _ =>
      refine Ev.bif_ff (by kernel_rfl) ?_
      have := c17_loop p0 [w0, w1, w2] hws (by show 3 ≤ 100; omega) 2 ⟨#[110, 119, 110]⟩ b2 (fun n => match n with | [n0, n1, n2] => (2, n0, 0, n2, 0, 0, 0, w1, ⟨#[]⟩) | _ => none_) rfl (fun n hn => by
        match n, hn with
        | [n0, n1, n2], _ => exact ⟨12, fun k hk => by
          obtain ⟨j, rfl⟩ : ∃ j, k = j + 12 := ⟨k - 12, by omega⟩
          show althingref21_Step.c17 (j + 12) [p0, w0, w1, w2] 2 ⟨#[110, 119, 110]⟩ [n0, n1, n2] 3 b2 none_ = some ((2, n0, 0, n2, 0, 0, 0, w1, ⟨#[]⟩), true)
          kernel_rfl⟩) 3 0 [] rfl rfl
      refine Ev.to this ?_
      have hf := fitB_all (kindsB 2) [w0, w1, w2] rfl
      cases hfit : fitB (kindsB 2) ([w0, w1, w2].map partOf) with
      | true =>
        rw [stepOf_fit hfit (by decide)]
        rw [hf, hkb] at hfit
        rw [List.drop_zero, List.drop_zero, hfit]
        rfl
      | false =>
        rw [stepOf_bad hfit (by decide)]
        rw [hf, hkb] at hfit
        rw [List.drop_zero, List.drop_zero, hfit]
        rfl
  · refine Ev.bif_tt ?_ ?_
    · rw [bne_iff_ne]
      show ((p0 :: ws).length : Int) ≠ 4
      rw [List.length_cons]
      omega
    · rw [stepOf_bad (by
        cases hfit : fitB (kindsB 2) (ws.map partOf) with
        | false => rfl
        | true =>
          have := fitB_len _ _ hfit
          rw [List.length_map] at this
          exact absurd this hl) (by decide)]
      exact Ev.some _
theorem verb_3 (p0 : ByteArray) (ws : List ByteArray) (hws : ∀ w ∈ ws, w.size ≤ 4000000) (rs : List Int) (b2 : Sp) : Ev (fun k => althingref21_Step.c5 k (p0 :: ws) rs 3 18 b2) (stepOf 3 (ws.map partOf) ws) := by
  refine Ev.step (fun k => althingref21_Step.c5_eq k _ _ _ _ _) (Ev.bif_ff (by decide) (Ev.bif_ff (by decide) (Ev.bind (a := (⟨#[110, 119, 119]⟩ : ByteArray)) (Ev.at_ fun k => (althingref21_kinds_eq k 3).trans (by kernel_rfl)) ?_)))
  have hkb : kindsB 3 = kbOf ⟨#[110, 119, 119]⟩ := by decide
  by_cases hl : ws.length = 3
  · match ws, hl with
    | [w0, w1, w2], _ =>
      refine Ev.bif_ff (by kernel_rfl) ?_
      have := c17_loop p0 [w0, w1, w2] hws (by show 3 ≤ 100; omega) 3 ⟨#[110, 119, 119]⟩ b2 (fun n => match n with | [n0, n1, n2] => (3, n0, 0, 0, 0, 0, 0, w1, w2) | _ => none_) rfl (fun n hn => by
        match n, hn with
        | [n0, n1, n2], _ => exact ⟨12, fun k hk => by
          obtain ⟨j, rfl⟩ : ∃ j, k = j + 12 := ⟨k - 12, by omega⟩
          show althingref21_Step.c17 (j + 12) [p0, w0, w1, w2] 3 ⟨#[110, 119, 119]⟩ [n0, n1, n2] 3 b2 none_ = some ((3, n0, 0, 0, 0, 0, 0, w1, w2), true)
          kernel_rfl⟩) 3 0 [] rfl rfl
      refine Ev.to this ?_
      have hf := fitB_all (kindsB 3) [w0, w1, w2] rfl
      cases hfit : fitB (kindsB 3) ([w0, w1, w2].map partOf) with
      | true =>
        rw [stepOf_fit hfit (by decide)]
        rw [hf, hkb] at hfit
        rw [List.drop_zero, List.drop_zero, hfit]
        rfl
      | false =>
        rw [stepOf_bad hfit (by decide)]
        rw [hf, hkb] at hfit
        rw [List.drop_zero, List.drop_zero, hfit]
        rfl
  · refine Ev.bif_tt ?_ ?_
    · rw [bne_iff_ne]
      show ((p0 :: ws).length : Int) ≠ 4
      rw [List.length_cons]
      omega
    · rw [stepOf_bad (by
        cases hfit : fitB (kindsB 3) (ws.map partOf) with
        | false => rfl
        | true =>
          have := fitB_len _ _ hfit
          rw [List.length_map] at this
          exact absurd this hl) (by decide)]
      exact Ev.some _
theorem verb_4 (p0 : ByteArray) (ws : List ByteArray) (hws : ∀ w ∈ ws, w.size ≤ 4000000) (rs : List Int) (b2 : Sp) : Ev (fun k => althingref21_Step.c5 k (p0 :: ws) rs 4 18 b2) (stepOf 4 (ws.map partOf) ws) := by
  refine Ev.step (fun k => althingref21_Step.c5_eq k _ _ _ _ _) (Ev.bif_ff (by decide) (Ev.bif_ff (by decide) (Ev.bind (a := (⟨#[110]⟩ : ByteArray)) (Ev.at_ fun k => (althingref21_kinds_eq k 4).trans (by kernel_rfl)) ?_)))
  have hkb : kindsB 4 = kbOf ⟨#[110]⟩ := by decide
  by_cases hl : ws.length = 1
  · match ws, hl with
    | [w0], _ =>
      refine Ev.bif_ff (by kernel_rfl) ?_
      have := c17_loop p0 [w0] hws (by show 1 ≤ 100; omega) 4 ⟨#[110]⟩ b2 (fun n => match n with | [n0] => (4, n0, 0, 0, 0, 0, 0, ⟨#[]⟩, ⟨#[]⟩) | _ => none_) rfl (fun n hn => by
        match n, hn with
        | [n0], _ => exact ⟨12, fun k hk => by
          obtain ⟨j, rfl⟩ : ∃ j, k = j + 12 := ⟨k - 12, by omega⟩
          show althingref21_Step.c17 (j + 12) [p0, w0] 4 ⟨#[110]⟩ [n0] 1 b2 none_ = some ((4, n0, 0, 0, 0, 0, 0, ⟨#[]⟩, ⟨#[]⟩), true)
          kernel_rfl⟩) 1 0 [] rfl rfl
      refine Ev.to this ?_
      have hf := fitB_all (kindsB 4) [w0] rfl
      cases hfit : fitB (kindsB 4) ([w0].map partOf) with
      | true =>
        rw [stepOf_fit hfit (by decide)]
        rw [hf, hkb] at hfit
        rw [List.drop_zero, List.drop_zero, hfit]
        rfl
      | false =>
        rw [stepOf_bad hfit (by decide)]
        rw [hf, hkb] at hfit
        rw [List.drop_zero, List.drop_zero, hfit]
        rfl
  · refine Ev.bif_tt ?_ ?_
    · rw [bne_iff_ne]
      show ((p0 :: ws).length : Int) ≠ 2
      rw [List.length_cons]
      omega
    · rw [stepOf_bad (by
        cases hfit : fitB (kindsB 4) (ws.map partOf) with
        | false => rfl
        | true =>
          have := fitB_len _ _ hfit
          rw [List.length_map] at this
          exact absurd this hl) (by decide)]
      exact Ev.some _
theorem verb_5 (p0 : ByteArray) (ws : List ByteArray) (hws : ∀ w ∈ ws, w.size ≤ 4000000) (rs : List Int) (b2 : Sp) : Ev (fun k => althingref21_Step.c5 k (p0 :: ws) rs 5 18 b2) (stepOf 5 (ws.map partOf) ws) := by
  refine Ev.step (fun k => althingref21_Step.c5_eq k _ _ _ _ _) (Ev.bif_ff (by decide) (Ev.bif_ff (by decide) (Ev.bind (a := (⟨#[110, 110, 110]⟩ : ByteArray)) (Ev.at_ fun k => (althingref21_kinds_eq k 5).trans (by kernel_rfl)) ?_)))
  have hkb : kindsB 5 = kbOf ⟨#[110, 110, 110]⟩ := by decide
  by_cases hl : ws.length = 3
  · match ws, hl with
    | [w0, w1, w2], _ =>
      refine Ev.bif_ff (by kernel_rfl) ?_
      have := c17_loop p0 [w0, w1, w2] hws (by show 3 ≤ 100; omega) 5 ⟨#[110, 110, 110]⟩ b2 (fun n => match n with | [n0, n1, n2] => (5, n0, n1, n2, 0, 0, 0, ⟨#[]⟩, ⟨#[]⟩) | _ => none_) rfl (fun n hn => by
        match n, hn with
        | [n0, n1, n2], _ => exact ⟨12, fun k hk => by
          obtain ⟨j, rfl⟩ : ∃ j, k = j + 12 := ⟨k - 12, by omega⟩
          show althingref21_Step.c17 (j + 12) [p0, w0, w1, w2] 5 ⟨#[110, 110, 110]⟩ [n0, n1, n2] 3 b2 none_ = some ((5, n0, n1, n2, 0, 0, 0, ⟨#[]⟩, ⟨#[]⟩), true)
          kernel_rfl⟩) 3 0 [] rfl rfl
      refine Ev.to this ?_
      have hf := fitB_all (kindsB 5) [w0, w1, w2] rfl
      cases hfit : fitB (kindsB 5) ([w0, w1, w2].map partOf) with
      | true =>
        rw [stepOf_fit hfit (by decide)]
        rw [hf, hkb] at hfit
        rw [List.drop_zero, List.drop_zero, hfit]
        rfl
      | false =>
        rw [stepOf_bad hfit (by decide)]
        rw [hf, hkb] at hfit
        rw [List.drop_zero, List.drop_zero, hfit]
        rfl
  · refine Ev.bif_tt ?_ ?_
    · rw [bne_iff_ne]
      show ((p0 :: ws).length : Int) ≠ 4
      rw [List.length_cons]
      omega
    · rw [stepOf_bad (by
        cases hfit : fitB (kindsB 5) (ws.map partOf) with
        | false => rfl
        | true =>
          have := fitB_len _ _ hfit
          rw [List.length_map] at this
          exact absurd this hl) (by decide)]
      exact Ev.some _
theorem verb_6 (p0 : ByteArray) (ws : List ByteArray) (hws : ∀ w ∈ ws, w.size ≤ 4000000) (rs : List Int) (b2 : Sp) : Ev (fun k => althingref21_Step.c5 k (p0 :: ws) rs 6 18 b2) (stepOf 6 (ws.map partOf) ws) := by
  refine Ev.step (fun k => althingref21_Step.c5_eq k _ _ _ _ _) (Ev.bif_ff (by decide) (Ev.bif_ff (by decide) (Ev.bind (a := (⟨#[110, 110, 110]⟩ : ByteArray)) (Ev.at_ fun k => (althingref21_kinds_eq k 6).trans (by kernel_rfl)) ?_)))
  have hkb : kindsB 6 = kbOf ⟨#[110, 110, 110]⟩ := by decide
  by_cases hl : ws.length = 3
  · match ws, hl with
    | [w0, w1, w2], _ =>
      refine Ev.bif_ff (by kernel_rfl) ?_
      have := c17_loop p0 [w0, w1, w2] hws (by show 3 ≤ 100; omega) 6 ⟨#[110, 110, 110]⟩ b2 (fun n => match n with | [n0, n1, n2] => (6, n0, n1, n2, 0, 0, 0, ⟨#[]⟩, ⟨#[]⟩) | _ => none_) rfl (fun n hn => by
        match n, hn with
        | [n0, n1, n2], _ => exact ⟨12, fun k hk => by
          obtain ⟨j, rfl⟩ : ∃ j, k = j + 12 := ⟨k - 12, by omega⟩
          show althingref21_Step.c17 (j + 12) [p0, w0, w1, w2] 6 ⟨#[110, 110, 110]⟩ [n0, n1, n2] 3 b2 none_ = some ((6, n0, n1, n2, 0, 0, 0, ⟨#[]⟩, ⟨#[]⟩), true)
          kernel_rfl⟩) 3 0 [] rfl rfl
      refine Ev.to this ?_
      have hf := fitB_all (kindsB 6) [w0, w1, w2] rfl
      cases hfit : fitB (kindsB 6) ([w0, w1, w2].map partOf) with
      | true =>
        rw [stepOf_fit hfit (by decide)]
        rw [hf, hkb] at hfit
        rw [List.drop_zero, List.drop_zero, hfit]
        rfl
      | false =>
        rw [stepOf_bad hfit (by decide)]
        rw [hf, hkb] at hfit
        rw [List.drop_zero, List.drop_zero, hfit]
        rfl
  · refine Ev.bif_tt ?_ ?_
    · rw [bne_iff_ne]
      show ((p0 :: ws).length : Int) ≠ 4
      rw [List.length_cons]
      omega
    · rw [stepOf_bad (by
        cases hfit : fitB (kindsB 6) (ws.map partOf) with
        | false => rfl
        | true =>
          have := fitB_len _ _ hfit
          rw [List.length_map] at this
          exact absurd this hl) (by decide)]
      exact Ev.some _
theorem verb_7 (p0 : ByteArray) (ws : List ByteArray) (hws : ∀ w ∈ ws, w.size ≤ 4000000) (rs : List Int) (b2 : Sp) : Ev (fun k => althingref21_Step.c5 k (p0 :: ws) rs 7 18 b2) (stepOf 7 (ws.map partOf) ws) := by
  refine Ev.step (fun k => althingref21_Step.c5_eq k _ _ _ _ _) (Ev.bif_ff (by decide) (Ev.bif_ff (by decide) (Ev.bind (a := (⟨#[110, 110, 110]⟩ : ByteArray)) (Ev.at_ fun k => (althingref21_kinds_eq k 7).trans (by kernel_rfl)) ?_)))
  have hkb : kindsB 7 = kbOf ⟨#[110, 110, 110]⟩ := by decide
  by_cases hl : ws.length = 3
  · match ws, hl with
    | [w0, w1, w2], _ =>
      refine Ev.bif_ff (by kernel_rfl) ?_
      have := c17_loop p0 [w0, w1, w2] hws (by show 3 ≤ 100; omega) 7 ⟨#[110, 110, 110]⟩ b2 (fun n => match n with | [n0, n1, n2] => (7, n0, n1, n2, 0, 0, 0, ⟨#[]⟩, ⟨#[]⟩) | _ => none_) rfl (fun n hn => by
        match n, hn with
        | [n0, n1, n2], _ => exact ⟨12, fun k hk => by
          obtain ⟨j, rfl⟩ : ∃ j, k = j + 12 := ⟨k - 12, by omega⟩
          show althingref21_Step.c17 (j + 12) [p0, w0, w1, w2] 7 ⟨#[110, 110, 110]⟩ [n0, n1, n2] 3 b2 none_ = some ((7, n0, n1, n2, 0, 0, 0, ⟨#[]⟩, ⟨#[]⟩), true)
          kernel_rfl⟩) 3 0 [] rfl rfl
      refine Ev.to this ?_
      have hf := fitB_all (kindsB 7) [w0, w1, w2] rfl
      cases hfit : fitB (kindsB 7) ([w0, w1, w2].map partOf) with
      | true =>
        rw [stepOf_fit hfit (by decide)]
        rw [hf, hkb] at hfit
        rw [List.drop_zero, List.drop_zero, hfit]
        rfl
      | false =>
        rw [stepOf_bad hfit (by decide)]
        rw [hf, hkb] at hfit
        rw [List.drop_zero, List.drop_zero, hfit]
        rfl
  · refine Ev.bif_tt ?_ ?_
    · rw [bne_iff_ne]
      show ((p0 :: ws).length : Int) ≠ 4
      rw [List.length_cons]
      omega
    · rw [stepOf_bad (by
        cases hfit : fitB (kindsB 7) (ws.map partOf) with
        | false => rfl
        | true =>
          have := fitB_len _ _ hfit
          rw [List.length_map] at this
          exact absurd this hl) (by decide)]
      exact Ev.some _
theorem verb_8 (p0 : ByteArray) (ws : List ByteArray) (hws : ∀ w ∈ ws, w.size ≤ 4000000) (rs : List Int) (b2 : Sp) : Ev (fun k => althingref21_Step.c5 k (p0 :: ws) rs 8 18 b2) (stepOf 8 (ws.map partOf) ws) := by
  refine Ev.step (fun k => althingref21_Step.c5_eq k _ _ _ _ _) (Ev.bif_ff (by decide) (Ev.bif_ff (by decide) (Ev.bind (a := (⟨#[110, 110, 110]⟩ : ByteArray)) (Ev.at_ fun k => (althingref21_kinds_eq k 8).trans (by kernel_rfl)) ?_)))
  have hkb : kindsB 8 = kbOf ⟨#[110, 110, 110]⟩ := by decide
  by_cases hl : ws.length = 3
  · match ws, hl with
    | [w0, w1, w2], _ =>
      refine Ev.bif_ff (by kernel_rfl) ?_
      have := c17_loop p0 [w0, w1, w2] hws (by show 3 ≤ 100; omega) 8 ⟨#[110, 110, 110]⟩ b2 (fun n => match n with | [n0, n1, n2] => (8, n0, n1, n2, 0, 0, 0, ⟨#[]⟩, ⟨#[]⟩) | _ => none_) rfl (fun n hn => by
        match n, hn with
        | [n0, n1, n2], _ => exact ⟨12, fun k hk => by
          obtain ⟨j, rfl⟩ : ∃ j, k = j + 12 := ⟨k - 12, by omega⟩
          show althingref21_Step.c17 (j + 12) [p0, w0, w1, w2] 8 ⟨#[110, 110, 110]⟩ [n0, n1, n2] 3 b2 none_ = some ((8, n0, n1, n2, 0, 0, 0, ⟨#[]⟩, ⟨#[]⟩), true)
          kernel_rfl⟩) 3 0 [] rfl rfl
      refine Ev.to this ?_
      have hf := fitB_all (kindsB 8) [w0, w1, w2] rfl
      cases hfit : fitB (kindsB 8) ([w0, w1, w2].map partOf) with
      | true =>
        rw [stepOf_fit hfit (by decide)]
        rw [hf, hkb] at hfit
        rw [List.drop_zero, List.drop_zero, hfit]
        rfl
      | false =>
        rw [stepOf_bad hfit (by decide)]
        rw [hf, hkb] at hfit
        rw [List.drop_zero, List.drop_zero, hfit]
        rfl
  · refine Ev.bif_tt ?_ ?_
    · rw [bne_iff_ne]
      show ((p0 :: ws).length : Int) ≠ 4
      rw [List.length_cons]
      omega
    · rw [stepOf_bad (by
        cases hfit : fitB (kindsB 8) (ws.map partOf) with
        | false => rfl
        | true =>
          have := fitB_len _ _ hfit
          rw [List.length_map] at this
          exact absurd this hl) (by decide)]
      exact Ev.some _
theorem verb_9 (p0 : ByteArray) (ws : List ByteArray) (hws : ∀ w ∈ ws, w.size ≤ 4000000) (rs : List Int) (b2 : Sp) : Ev (fun k => althingref21_Step.c5 k (p0 :: ws) rs 9 18 b2) (stepOf 9 (ws.map partOf) ws) := by
  refine Ev.step (fun k => althingref21_Step.c5_eq k _ _ _ _ _) (Ev.bif_ff (by decide) (Ev.bif_ff (by decide) (Ev.bind (a := (⟨#[110, 110]⟩ : ByteArray)) (Ev.at_ fun k => (althingref21_kinds_eq k 9).trans (by kernel_rfl)) ?_)))
  have hkb : kindsB 9 = kbOf ⟨#[110, 110]⟩ := by decide
  by_cases hl : ws.length = 2
  · match ws, hl with
    | [w0, w1], _ =>
      refine Ev.bif_ff (by kernel_rfl) ?_
      have := c17_loop p0 [w0, w1] hws (by show 2 ≤ 100; omega) 9 ⟨#[110, 110]⟩ b2 (fun n => match n with | [n0, n1] => (9, 0, n0, n1, 0, 0, 0, ⟨#[]⟩, ⟨#[]⟩) | _ => none_) rfl (fun n hn => by
        match n, hn with
        | [n0, n1], _ => exact ⟨12, fun k hk => by
          obtain ⟨j, rfl⟩ : ∃ j, k = j + 12 := ⟨k - 12, by omega⟩
          show althingref21_Step.c17 (j + 12) [p0, w0, w1] 9 ⟨#[110, 110]⟩ [n0, n1] 2 b2 none_ = some ((9, 0, n0, n1, 0, 0, 0, ⟨#[]⟩, ⟨#[]⟩), true)
          kernel_rfl⟩) 2 0 [] rfl rfl
      refine Ev.to this ?_
      have hf := fitB_all (kindsB 9) [w0, w1] rfl
      cases hfit : fitB (kindsB 9) ([w0, w1].map partOf) with
      | true =>
        rw [stepOf_fit hfit (by decide)]
        rw [hf, hkb] at hfit
        rw [List.drop_zero, List.drop_zero, hfit]
        rfl
      | false =>
        rw [stepOf_bad hfit (by decide)]
        rw [hf, hkb] at hfit
        rw [List.drop_zero, List.drop_zero, hfit]
        rfl
  · refine Ev.bif_tt ?_ ?_
    · rw [bne_iff_ne]
      show ((p0 :: ws).length : Int) ≠ 3
      rw [List.length_cons]
      omega
    · rw [stepOf_bad (by
        cases hfit : fitB (kindsB 9) (ws.map partOf) with
        | false => rfl
        | true =>
          have := fitB_len _ _ hfit
          rw [List.length_map] at this
          exact absurd this hl) (by decide)]
      exact Ev.some _
theorem verb_10 (p0 : ByteArray) (ws : List ByteArray) (hws : ∀ w ∈ ws, w.size ≤ 4000000) (rs : List Int) (b2 : Sp) : Ev (fun k => althingref21_Step.c5 k (p0 :: ws) rs 10 18 b2) (stepOf 10 (ws.map partOf) ws) := by
  refine Ev.step (fun k => althingref21_Step.c5_eq k _ _ _ _ _) (Ev.bif_ff (by decide) (Ev.bif_ff (by decide) (Ev.bind (a := (⟨#[110, 110]⟩ : ByteArray)) (Ev.at_ fun k => (althingref21_kinds_eq k 10).trans (by kernel_rfl)) ?_)))
  have hkb : kindsB 10 = kbOf ⟨#[110, 110]⟩ := by decide
  by_cases hl : ws.length = 2
  · match ws, hl with
    | [w0, w1], _ =>
      refine Ev.bif_ff (by kernel_rfl) ?_
      have := c17_loop p0 [w0, w1] hws (by show 2 ≤ 100; omega) 10 ⟨#[110, 110]⟩ b2 (fun n => match n with | [n0, n1] => (10, 0, n0, n1, 0, 0, 0, ⟨#[]⟩, ⟨#[]⟩) | _ => none_) rfl (fun n hn => by
        match n, hn with
        | [n0, n1], _ => exact ⟨12, fun k hk => by
          obtain ⟨j, rfl⟩ : ∃ j, k = j + 12 := ⟨k - 12, by omega⟩
          show althingref21_Step.c17 (j + 12) [p0, w0, w1] 10 ⟨#[110, 110]⟩ [n0, n1] 2 b2 none_ = some ((10, 0, n0, n1, 0, 0, 0, ⟨#[]⟩, ⟨#[]⟩), true)
          kernel_rfl⟩) 2 0 [] rfl rfl
      refine Ev.to this ?_
      have hf := fitB_all (kindsB 10) [w0, w1] rfl
      cases hfit : fitB (kindsB 10) ([w0, w1].map partOf) with
      | true =>
        rw [stepOf_fit hfit (by decide)]
        rw [hf, hkb] at hfit
        rw [List.drop_zero, List.drop_zero, hfit]
        rfl
      | false =>
        rw [stepOf_bad hfit (by decide)]
        rw [hf, hkb] at hfit
        rw [List.drop_zero, List.drop_zero, hfit]
        rfl
  · refine Ev.bif_tt ?_ ?_
    · rw [bne_iff_ne]
      show ((p0 :: ws).length : Int) ≠ 3
      rw [List.length_cons]
      omega
    · rw [stepOf_bad (by
        cases hfit : fitB (kindsB 10) (ws.map partOf) with
        | false => rfl
        | true =>
          have := fitB_len _ _ hfit
          rw [List.length_map] at this
          exact absurd this hl) (by decide)]
      exact Ev.some _
theorem verb_11 (p0 : ByteArray) (ws : List ByteArray) (hws : ∀ w ∈ ws, w.size ≤ 4000000) (rs : List Int) (b2 : Sp) : Ev (fun k => althingref21_Step.c5 k (p0 :: ws) rs 11 18 b2) (stepOf 11 (ws.map partOf) ws) := by
  refine Ev.step (fun k => althingref21_Step.c5_eq k _ _ _ _ _) (Ev.bif_ff (by decide) (Ev.bif_ff (by decide) (Ev.bind (a := (⟨#[110, 110]⟩ : ByteArray)) (Ev.at_ fun k => (althingref21_kinds_eq k 11).trans (by kernel_rfl)) ?_)))
  have hkb : kindsB 11 = kbOf ⟨#[110, 110]⟩ := by decide
  by_cases hl : ws.length = 2
  · match ws, hl with
    | [w0, w1], _ =>
      refine Ev.bif_ff (by kernel_rfl) ?_
      have := c17_loop p0 [w0, w1] hws (by show 2 ≤ 100; omega) 11 ⟨#[110, 110]⟩ b2 (fun n => match n with | [n0, n1] => (11, 0, n0, n1, 0, 0, 0, ⟨#[]⟩, ⟨#[]⟩) | _ => none_) rfl (fun n hn => by
        match n, hn with
        | [n0, n1], _ => exact ⟨12, fun k hk => by
          obtain ⟨j, rfl⟩ : ∃ j, k = j + 12 := ⟨k - 12, by omega⟩
          show althingref21_Step.c17 (j + 12) [p0, w0, w1] 11 ⟨#[110, 110]⟩ [n0, n1] 2 b2 none_ = some ((11, 0, n0, n1, 0, 0, 0, ⟨#[]⟩, ⟨#[]⟩), true)
          kernel_rfl⟩) 2 0 [] rfl rfl
      refine Ev.to this ?_
      have hf := fitB_all (kindsB 11) [w0, w1] rfl
      cases hfit : fitB (kindsB 11) ([w0, w1].map partOf) with
      | true =>
        rw [stepOf_fit hfit (by decide)]
        rw [hf, hkb] at hfit
        rw [List.drop_zero, List.drop_zero, hfit]
        rfl
      | false =>
        rw [stepOf_bad hfit (by decide)]
        rw [hf, hkb] at hfit
        rw [List.drop_zero, List.drop_zero, hfit]
        rfl
  · refine Ev.bif_tt ?_ ?_
    · rw [bne_iff_ne]
      show ((p0 :: ws).length : Int) ≠ 3
      rw [List.length_cons]
      omega
    · rw [stepOf_bad (by
        cases hfit : fitB (kindsB 11) (ws.map partOf) with
        | false => rfl
        | true =>
          have := fitB_len _ _ hfit
          rw [List.length_map] at this
          exact absurd this hl) (by decide)]
      exact Ev.some _
theorem verb_12 (p0 : ByteArray) (ws : List ByteArray) (hws : ∀ w ∈ ws, w.size ≤ 4000000) (rs : List Int) (b2 : Sp) : Ev (fun k => althingref21_Step.c5 k (p0 :: ws) rs 12 18 b2) (stepOf 12 (ws.map partOf) ws) := by
  refine Ev.step (fun k => althingref21_Step.c5_eq k _ _ _ _ _) (Ev.bif_ff (by decide) (Ev.bif_ff (by decide) (Ev.bind (a := (⟨#[110, 110]⟩ : ByteArray)) (Ev.at_ fun k => (althingref21_kinds_eq k 12).trans (by kernel_rfl)) ?_)))
  have hkb : kindsB 12 = kbOf ⟨#[110, 110]⟩ := by decide
  by_cases hl : ws.length = 2
  · match ws, hl with
    | [w0, w1], _ =>
      refine Ev.bif_ff (by kernel_rfl) ?_
      have := c17_loop p0 [w0, w1] hws (by show 2 ≤ 100; omega) 12 ⟨#[110, 110]⟩ b2 (fun n => match n with | [n0, n1] => (12, 0, n0, n1, 0, 0, 0, ⟨#[]⟩, ⟨#[]⟩) | _ => none_) rfl (fun n hn => by
        match n, hn with
        | [n0, n1], _ => exact ⟨12, fun k hk => by
          obtain ⟨j, rfl⟩ : ∃ j, k = j + 12 := ⟨k - 12, by omega⟩
          show althingref21_Step.c17 (j + 12) [p0, w0, w1] 12 ⟨#[110, 110]⟩ [n0, n1] 2 b2 none_ = some ((12, 0, n0, n1, 0, 0, 0, ⟨#[]⟩, ⟨#[]⟩), true)
          kernel_rfl⟩) 2 0 [] rfl rfl
      refine Ev.to this ?_
      have hf := fitB_all (kindsB 12) [w0, w1] rfl
      cases hfit : fitB (kindsB 12) ([w0, w1].map partOf) with
      | true =>
        rw [stepOf_fit hfit (by decide)]
        rw [hf, hkb] at hfit
        rw [List.drop_zero, List.drop_zero, hfit]
        rfl
      | false =>
        rw [stepOf_bad hfit (by decide)]
        rw [hf, hkb] at hfit
        rw [List.drop_zero, List.drop_zero, hfit]
        rfl
  · refine Ev.bif_tt ?_ ?_
    · rw [bne_iff_ne]
      show ((p0 :: ws).length : Int) ≠ 3
      rw [List.length_cons]
      omega
    · rw [stepOf_bad (by
        cases hfit : fitB (kindsB 12) (ws.map partOf) with
        | false => rfl
        | true =>
          have := fitB_len _ _ hfit
          rw [List.length_map] at this
          exact absurd this hl) (by decide)]
      exact Ev.some _
theorem verb_13 (p0 : ByteArray) (ws : List ByteArray) (hws : ∀ w ∈ ws, w.size ≤ 4000000) (rs : List Int) (b2 : Sp) : Ev (fun k => althingref21_Step.c5 k (p0 :: ws) rs 13 18 b2) (stepOf 13 (ws.map partOf) ws) := by
  refine Ev.step (fun k => althingref21_Step.c5_eq k _ _ _ _ _) (Ev.bif_ff (by decide) (Ev.bif_ff (by decide) (Ev.bind (a := (⟨#[110, 110]⟩ : ByteArray)) (Ev.at_ fun k => (althingref21_kinds_eq k 13).trans (by kernel_rfl)) ?_)))
  have hkb : kindsB 13 = kbOf ⟨#[110, 110]⟩ := by decide
  by_cases hl : ws.length = 2
  · match ws, hl with
    | [w0, w1], _ =>
      refine Ev.bif_ff (by kernel_rfl) ?_
      have := c17_loop p0 [w0, w1] hws (by show 2 ≤ 100; omega) 13 ⟨#[110, 110]⟩ b2 (fun n => match n with | [n0, n1] => (13, 0, n0, 0, n1, 0, 0, ⟨#[]⟩, ⟨#[]⟩) | _ => none_) rfl (fun n hn => by
        match n, hn with
        | [n0, n1], _ => exact ⟨12, fun k hk => by
          obtain ⟨j, rfl⟩ : ∃ j, k = j + 12 := ⟨k - 12, by omega⟩
          show althingref21_Step.c17 (j + 12) [p0, w0, w1] 13 ⟨#[110, 110]⟩ [n0, n1] 2 b2 none_ = some ((13, 0, n0, 0, n1, 0, 0, ⟨#[]⟩, ⟨#[]⟩), true)
          kernel_rfl⟩) 2 0 [] rfl rfl
      refine Ev.to this ?_
      have hf := fitB_all (kindsB 13) [w0, w1] rfl
      cases hfit : fitB (kindsB 13) ([w0, w1].map partOf) with
      | true =>
        rw [stepOf_fit hfit (by decide)]
        rw [hf, hkb] at hfit
        rw [List.drop_zero, List.drop_zero, hfit]
        rfl
      | false =>
        rw [stepOf_bad hfit (by decide)]
        rw [hf, hkb] at hfit
        rw [List.drop_zero, List.drop_zero, hfit]
        rfl
  · refine Ev.bif_tt ?_ ?_
    · rw [bne_iff_ne]
      show ((p0 :: ws).length : Int) ≠ 3
      rw [List.length_cons]
      omega
    · rw [stepOf_bad (by
        cases hfit : fitB (kindsB 13) (ws.map partOf) with
        | false => rfl
        | true =>
          have := fitB_len _ _ hfit
          rw [List.length_map] at this
          exact absurd this hl) (by decide)]
      exact Ev.some _
theorem verb_14 (p0 : ByteArray) (ws : List ByteArray) (hws : ∀ w ∈ ws, w.size ≤ 4000000) (rs : List Int) (b2 : Sp) : Ev (fun k => althingref21_Step.c5 k (p0 :: ws) rs 14 18 b2) (stepOf 14 (ws.map partOf) ws) := by
  refine Ev.step (fun k => althingref21_Step.c5_eq k _ _ _ _ _) (Ev.bif_ff (by decide) (Ev.bif_ff (by decide) (Ev.bind (a := (⟨#[110, 110]⟩ : ByteArray)) (Ev.at_ fun k => (althingref21_kinds_eq k 14).trans (by kernel_rfl)) ?_)))
  have hkb : kindsB 14 = kbOf ⟨#[110, 110]⟩ := by decide
  by_cases hl : ws.length = 2
  · match ws, hl with
    | [w0, w1], _ =>
      refine Ev.bif_ff (by kernel_rfl) ?_
      have := c17_loop p0 [w0, w1] hws (by show 2 ≤ 100; omega) 14 ⟨#[110, 110]⟩ b2 (fun n => match n with | [n0, n1] => (14, 0, n0, 0, n1, 0, 0, ⟨#[]⟩, ⟨#[]⟩) | _ => none_) rfl (fun n hn => by
        match n, hn with
        | [n0, n1], _ => exact ⟨12, fun k hk => by
          obtain ⟨j, rfl⟩ : ∃ j, k = j + 12 := ⟨k - 12, by omega⟩
          show althingref21_Step.c17 (j + 12) [p0, w0, w1] 14 ⟨#[110, 110]⟩ [n0, n1] 2 b2 none_ = some ((14, 0, n0, 0, n1, 0, 0, ⟨#[]⟩, ⟨#[]⟩), true)
          kernel_rfl⟩) 2 0 [] rfl rfl
      refine Ev.to this ?_
      have hf := fitB_all (kindsB 14) [w0, w1] rfl
      cases hfit : fitB (kindsB 14) ([w0, w1].map partOf) with
      | true =>
        rw [stepOf_fit hfit (by decide)]
        rw [hf, hkb] at hfit
        rw [List.drop_zero, List.drop_zero, hfit]
        rfl
      | false =>
        rw [stepOf_bad hfit (by decide)]
        rw [hf, hkb] at hfit
        rw [List.drop_zero, List.drop_zero, hfit]
        rfl
  · refine Ev.bif_tt ?_ ?_
    · rw [bne_iff_ne]
      show ((p0 :: ws).length : Int) ≠ 3
      rw [List.length_cons]
      omega
    · rw [stepOf_bad (by
        cases hfit : fitB (kindsB 14) (ws.map partOf) with
        | false => rfl
        | true =>
          have := fitB_len _ _ hfit
          rw [List.length_map] at this
          exact absurd this hl) (by decide)]
      exact Ev.some _
theorem verb_15 (p0 : ByteArray) (ws : List ByteArray) (hws : ∀ w ∈ ws, w.size ≤ 4000000) (rs : List Int) (b2 : Sp) : Ev (fun k => althingref21_Step.c5 k (p0 :: ws) rs 15 18 b2) (stepOf 15 (ws.map partOf) ws) := by
  refine Ev.step (fun k => althingref21_Step.c5_eq k _ _ _ _ _) (Ev.bif_ff (by decide) (Ev.bif_ff (by decide) (Ev.bind (a := (⟨#[110, 110]⟩ : ByteArray)) (Ev.at_ fun k => (althingref21_kinds_eq k 15).trans (by kernel_rfl)) ?_)))
  have hkb : kindsB 15 = kbOf ⟨#[110, 110]⟩ := by decide
  by_cases hl : ws.length = 2
  · match ws, hl with
    | [w0, w1], _ =>
      refine Ev.bif_ff (by kernel_rfl) ?_
      have := c17_loop p0 [w0, w1] hws (by show 2 ≤ 100; omega) 15 ⟨#[110, 110]⟩ b2 (fun n => match n with | [n0, n1] => (15, 0, n0, 0, n1, 0, 0, ⟨#[]⟩, ⟨#[]⟩) | _ => none_) rfl (fun n hn => by
        match n, hn with
        | [n0, n1], _ => exact ⟨12, fun k hk => by
          obtain ⟨j, rfl⟩ : ∃ j, k = j + 12 := ⟨k - 12, by omega⟩
          show althingref21_Step.c17 (j + 12) [p0, w0, w1] 15 ⟨#[110, 110]⟩ [n0, n1] 2 b2 none_ = some ((15, 0, n0, 0, n1, 0, 0, ⟨#[]⟩, ⟨#[]⟩), true)
          kernel_rfl⟩) 2 0 [] rfl rfl
      refine Ev.to this ?_
      have hf := fitB_all (kindsB 15) [w0, w1] rfl
      cases hfit : fitB (kindsB 15) ([w0, w1].map partOf) with
      | true =>
        rw [stepOf_fit hfit (by decide)]
        rw [hf, hkb] at hfit
        rw [List.drop_zero, List.drop_zero, hfit]
        rfl
      | false =>
        rw [stepOf_bad hfit (by decide)]
        rw [hf, hkb] at hfit
        rw [List.drop_zero, List.drop_zero, hfit]
        rfl
  · refine Ev.bif_tt ?_ ?_
    · rw [bne_iff_ne]
      show ((p0 :: ws).length : Int) ≠ 3
      rw [List.length_cons]
      omega
    · rw [stepOf_bad (by
        cases hfit : fitB (kindsB 15) (ws.map partOf) with
        | false => rfl
        | true =>
          have := fitB_len _ _ hfit
          rw [List.length_map] at this
          exact absurd this hl) (by decide)]
      exact Ev.some _
theorem verb_16 (p0 : ByteArray) (ws : List ByteArray) (hws : ∀ w ∈ ws, w.size ≤ 4000000) (rs : List Int) (b2 : Sp) : Ev (fun k => althingref21_Step.c5 k (p0 :: ws) rs 16 18 b2) (stepOf 16 (ws.map partOf) ws) := by
  refine Ev.step (fun k => althingref21_Step.c5_eq k _ _ _ _ _) (Ev.bif_ff (by decide) (Ev.bif_ff (by decide) (Ev.bind (a := (⟨#[110, 110, 110, 110, 110]⟩ : ByteArray)) (Ev.at_ fun k => (althingref21_kinds_eq k 16).trans (by kernel_rfl)) ?_)))
  have hkb : kindsB 16 = kbOf ⟨#[110, 110, 110, 110, 110]⟩ := by decide
  by_cases hl : ws.length = 5
  · match ws, hl with
    | [w0, w1, w2, w3, w4], _ =>
      refine Ev.bif_ff (by kernel_rfl) ?_
      have := c17_loop p0 [w0, w1, w2, w3, w4] hws (by show 5 ≤ 100; omega) 16 ⟨#[110, 110, 110, 110, 110]⟩ b2 (fun n => match n with | [n0, n1, n2, n3, n4] => (16, 0, n0, n1, n2, n3, IntKind.wrap .u8 n4, ⟨#[]⟩, ⟨#[]⟩) | _ => none_) rfl (fun n hn => by
        match n, hn with
        | [n0, n1, n2, n3, n4], _ => exact ⟨12, fun k hk => by
          obtain ⟨j, rfl⟩ : ∃ j, k = j + 12 := ⟨k - 12, by omega⟩
          show althingref21_Step.c17 (j + 12) [p0, w0, w1, w2, w3, w4] 16 ⟨#[110, 110, 110, 110, 110]⟩ [n0, n1, n2, n3, n4] 5 b2 none_ = some ((16, 0, n0, n1, n2, n3, IntKind.wrap .u8 n4, ⟨#[]⟩, ⟨#[]⟩), true)
          kernel_rfl⟩) 5 0 [] rfl rfl
      refine Ev.to this ?_
      have hf := fitB_all (kindsB 16) [w0, w1, w2, w3, w4] rfl
      cases hfit : fitB (kindsB 16) ([w0, w1, w2, w3, w4].map partOf) with
      | true =>
        rw [stepOf_fit hfit (by decide)]
        rw [hf, hkb] at hfit
        rw [List.drop_zero, List.drop_zero, hfit]
        rfl
      | false =>
        rw [stepOf_bad hfit (by decide)]
        rw [hf, hkb] at hfit
        rw [List.drop_zero, List.drop_zero, hfit]
        rfl
  · refine Ev.bif_tt ?_ ?_
    · rw [bne_iff_ne]
      show ((p0 :: ws).length : Int) ≠ 6
      rw [List.length_cons]
      omega
    · rw [stepOf_bad (by
        cases hfit : fitB (kindsB 16) (ws.map partOf) with
        | false => rfl
        | true =>
          have := fitB_len _ _ hfit
          rw [List.length_map] at this
          exact absurd this hl) (by decide)]
      exact Ev.some _
theorem verb_17 (p0 : ByteArray) (ws : List ByteArray) (hws : ∀ w ∈ ws, w.size ≤ 4000000) (rs : List Int) (b2 : Sp) : Ev (fun k => althingref21_Step.c5 k (p0 :: ws) rs 17 18 b2) (stepOf 17 (ws.map partOf) ws) := by
  refine Ev.step (fun k => althingref21_Step.c5_eq k _ _ _ _ _) (Ev.bif_ff (by decide) (Ev.bif_ff (by decide) (Ev.bind (a := (⟨#[110, 110]⟩ : ByteArray)) (Ev.at_ fun k => (althingref21_kinds_eq k 17).trans (by kernel_rfl)) ?_)))
  have hkb : kindsB 17 = kbOf ⟨#[110, 110]⟩ := by decide
  by_cases hl : ws.length = 2
  · match ws, hl with
    | [w0, w1], _ =>
      refine Ev.bif_ff (by kernel_rfl) ?_
      have := c17_loop p0 [w0, w1] hws (by show 2 ≤ 100; omega) 17 ⟨#[110, 110]⟩ b2 (fun n => match n with | [n0, n1] => (17, 0, n0, n1, 0, 0, 0, ⟨#[]⟩, ⟨#[]⟩) | _ => none_) rfl (fun n hn => by
        match n, hn with
        | [n0, n1], _ => exact ⟨12, fun k hk => by
          obtain ⟨j, rfl⟩ : ∃ j, k = j + 12 := ⟨k - 12, by omega⟩
          show althingref21_Step.c17 (j + 12) [p0, w0, w1] 17 ⟨#[110, 110]⟩ [n0, n1] 2 b2 none_ = some ((17, 0, n0, n1, 0, 0, 0, ⟨#[]⟩, ⟨#[]⟩), true)
          kernel_rfl⟩) 2 0 [] rfl rfl
      refine Ev.to this ?_
      have hf := fitB_all (kindsB 17) [w0, w1] rfl
      cases hfit : fitB (kindsB 17) ([w0, w1].map partOf) with
      | true =>
        rw [stepOf_fit hfit (by decide)]
        rw [hf, hkb] at hfit
        rw [List.drop_zero, List.drop_zero, hfit]
        rfl
      | false =>
        rw [stepOf_bad hfit (by decide)]
        rw [hf, hkb] at hfit
        rw [List.drop_zero, List.drop_zero, hfit]
        rfl
  · refine Ev.bif_tt ?_ ?_
    · rw [bne_iff_ne]
      show ((p0 :: ws).length : Int) ≠ 3
      rw [List.length_cons]
      omega
    · rw [stepOf_bad (by
        cases hfit : fitB (kindsB 17) (ws.map partOf) with
        | false => rfl
        | true =>
          have := fitB_len _ _ hfit
          rw [List.length_map] at this
          exact absurd this hl) (by decide)]
      exact Ev.some _
def lastV (rs : List Int) (acc : Int) : Nat → Nat → Int
  | _, 0 => acc
  | v, d + 1 => lastV rs (bif ((rs.length : Int) == 1) && (rs.getD 0 0 == runeOf (v : Int)) then (v : Int) else acc) (v + 1) d
theorem c5_loop (p : List ByteArray) (rs : List Int) (b2 : Sp) {r : Sp × Bool} : ∀ d v (acc : Int), v + d = 18 → Ev (fun k => althingref21_Step.c5 k p rs (lastV rs acc v d) 18 b2) r → Ev (fun k => althingref21_Step.c5 k p rs acc (v : Int) b2) r
  | 0, v, acc, h, hr => by
    obtain rfl : v = 18 := by omega
    exact hr
  | d + 1, v, acc, h, hr => by
    have h6 : ∀ {x : Int}, Ev (fun k => althingref21_Step.c5 k p rs x ((v + 1 : Nat) : Int) b2) r → Ev (fun k => althingref21_Step.c6 k p rs x (v : Int) b2) r := fun {x} hx => by
      refine Ev.step (fun k => althingref21_Step.c6_eq k _ _ _ _ _) ?_
      rw [wrap_at (by omega)]
      exact hx
    unfold lastV at hr
    refine Ev.step (fun k => althingref21_Step.c5_eq k _ _ _ _ _) (Ev.bif_tt (decide_eq_true (by omega)) ?_)
    cases h1 : ((rs.length : Int) == 1) with
    | false =>
      rw [h1] at hr
      exact Ev.bif_ff rfl (h6 (c5_loop p rs b2 d (v + 1) _ (by omega) hr))
    | true =>
      have hlen : rs.length = 1 := by have := beq_iff_eq.1 h1; omega
      rw [h1, Bool.true_and] at hr
      refine Ev.bif_tt rfl (Ev.bif_tt (inI_tt (i := 0) (by omega)) (Ev.bind (ref_Rune_is _) ?_))
      show Ev (fun k => bif (rs.getD 0 0 == runeOf (v : Int)) then _ else _) _
      cases h2 : (rs.getD 0 0 == runeOf (v : Int)) with
      | true =>
        rw [h2] at hr
        exact Ev.bif_tt rfl (h6 (c5_loop p rs b2 d (v + 1) _ (by omega) hr))
      | false =>
        rw [h2] at hr
        exact Ev.bif_ff rfl (h6 (c5_loop p rs b2 d (v + 1) _ (by omega) hr))
theorem lastV_not (rs : List Int) (h : rs.length ≠ 1) (acc : Int) : ∀ d v, lastV rs acc v d = acc
  | 0, v => rfl
  | d + 1, v => by
    unfold lastV
    rw [beq_eq_false_iff_ne.2 (by omega : (rs.length : Int) ≠ 1)]
    exact lastV_not rs h acc d (v + 1)
theorem lastV_none (c : Int) (h : ∀ m : Fin 18, 1 ≤ m.val → runeOf (m.val : Int) ≠ c) (acc : Int) : ∀ d v, 1 ≤ v → v + d = 18 → lastV [c] acc v d = acc ∧ verbFrom c v d = 0
  | 0, v, _, _ => ⟨rfl, rfl⟩
  | d + 1, v, h1, h2 => by
    have hv := h ⟨v, by omega⟩ h1
    have ih := lastV_none c h acc d (v + 1) (by omega) (by omega)
    unfold lastV verbFrom
    rw [show (([c].length : Int) == 1) = true from rfl, show (([c] : List Int).getD 0 0 == runeOf (v : Int)) = false from beq_eq_false_iff_ne.2 (Ne.symm hv), beq_eq_false_iff_ne.2 hv]
    exact ih
theorem lastV_is (c : Int) : lastV [c] 0 1 17 = verbOf c := by
  by_cases h : ∃ m : Fin 18, 1 ≤ m.val ∧ runeOf (m.val : Int) = c
  · obtain ⟨m, h1, rfl⟩ := h
    have : ∀ m : Fin 18, 1 ≤ m.val → lastV [runeOf (m.val : Int)] 0 1 17 = verbOf (runeOf (m.val : Int)) := by decide +kernel
    exact this m h1
  · have := lastV_none c (fun m h1 h2 => h ⟨m, h1, h2⟩) 0 17 1 (by omega) (by omega)
    rw [this.1]
    exact this.2.symm
theorem verbOf_range (c : Int) : verbOf c = 0 ∨ ∃ m : Fin 18, 1 ≤ m.val ∧ verbOf c = (m.val : Int) := by
  have : ∀ d v, 1 ≤ v → v + d = 18 → verbFrom c v d = 0 ∨ ∃ m : Fin 18, 1 ≤ m.val ∧ verbFrom c v d = (m.val : Int) := by
    intro d
    induction d with
    | zero => intro v _ _; exact .inl rfl
    | succ d ih =>
      intro v h1 h2
      unfold verbFrom
      cases runeOf (v : Int) == c with
      | true => exact .inr ⟨⟨v, by omega⟩, h1, rfl⟩
      | false => exact ih (v + 1) (by omega) (by omega)
  exact this 17 1 (by omega) (by omega)
theorem verb_all (p0 : ByteArray) (ws : List ByteArray) (hws : ∀ w ∈ ws, w.size ≤ 4000000) (rs : List Int) (b2 : Sp) : ∀ m : Fin 18, 1 ≤ m.val → Ev (fun k => althingref21_Step.c5 k (p0 :: ws) rs (m.val : Int) 18 b2) (stepOf (m.val : Int) (ws.map partOf) ws)
  | ⟨0, _⟩, h => absurd h (by show ¬ (1 ≤ 0); decide)
  | ⟨1, _⟩, _ => verb_1 p0 ws hws rs b2
  | ⟨2, _⟩, _ => verb_2 p0 ws hws rs b2
  | ⟨3, _⟩, _ => verb_3 p0 ws hws rs b2
  | ⟨4, _⟩, _ => verb_4 p0 ws hws rs b2
  | ⟨5, _⟩, _ => verb_5 p0 ws hws rs b2
  | ⟨6, _⟩, _ => verb_6 p0 ws hws rs b2
  | ⟨7, _⟩, _ => verb_7 p0 ws hws rs b2
  | ⟨8, _⟩, _ => verb_8 p0 ws hws rs b2
  | ⟨9, _⟩, _ => verb_9 p0 ws hws rs b2
  | ⟨10, _⟩, _ => verb_10 p0 ws hws rs b2
  | ⟨11, _⟩, _ => verb_11 p0 ws hws rs b2
  | ⟨12, _⟩, _ => verb_12 p0 ws hws rs b2
  | ⟨13, _⟩, _ => verb_13 p0 ws hws rs b2
  | ⟨14, _⟩, _ => verb_14 p0 ws hws rs b2
  | ⟨15, _⟩, _ => verb_15 p0 ws hws rs b2
  | ⟨16, _⟩, _ => verb_16 p0 ws hws rs b2
  | ⟨17, _⟩, _ => verb_17 p0 ws hws rs b2
  | ⟨n + 18, h⟩, _ => absurd h (by omega)
theorem ref_Step_is (line : ByteArray) (hs : line.size ≤ 4000000) : Ev (fun k => althingref21_Step k line) (stepF line) := by
  refine Ev.congr (althingref21_Step_eq · line) (Ev.bind (ref_Parts_is line hs) ?_)
  obtain ⟨w, ws, hw⟩ := words_cons line
  have hmem : ∀ p ∈ words line, p.size ≤ 4000000 := fun p hp => Nat.le_trans (split_mem (c := 32) hp) hs
  have hp : partsOf line = partOf w :: ws.map partOf := by unfold partsOf; rw [hw]; rfl
  unfold stepF
  rw [hp, hw]
  rw [hw] at hmem
  refine Ev.bif_tt (inI_tt (i := 0) (by simp)) ?_
  show Ev (fun k => (althingref04_Runes k w).bind fun r1 => althingref21_Step.c5 k (w :: ws) r1 0 1 (Ty.zero Ty_cluster_Step)) (stepEnd (runesL w).length (lastVerb 0 (runesL w)) (ws.map partOf) (w :: ws))
  refine Ev.bind (refRunes_is w (hmem w (by simp))) ?_
  generalize runesL w = rs
  refine c5_loop (w :: ws) rs _ 17 1 0 (by omega) ?_
  have h0 : Ev (fun k => althingref21_Step.c5 k (w :: ws) rs 0 18 (Ty.zero Ty_cluster_Step)) (none_, false) :=
    Ev.step (fun k => althingref21_Step.c5_eq k _ _ _ _ _) (Ev.bif_ff (by decide) (Ev.bif_tt rfl (Ev.some _)))
  by_cases h1 : rs.length = 1
  · match rs, h1 with
    | [c], _ =>
      rw [lastV_is]
      show Ev _ (bif (verbOf c == 0) then (none_, false) else stepOf (verbOf c) (ws.map partOf) ws)
      rcases verbOf_range c with h | ⟨m, hm, h⟩
      · rw [h]; exact h0
      · rw [h]
        rw [beq_eq_false_iff_ne.2 (by omega : (m.val : Int) ≠ 0)]
        exact verb_all w ws (fun x hx => hmem x (by simp [hx])) [c] _ m hm
  · rw [lastV_not rs h1]
    have : stepEnd rs.length (lastVerb 0 rs) (ws.map partOf) (w :: ws) = (none_, false) := by
      unfold stepEnd
      rw [show Nat.beq rs.length 1 = false from Bool.eq_false_iff.2 fun h => h1 (Nat.eq_of_beq_eq_true h)]; rfl
    rw [this]
    exact h0
end Go.Proofs.YtigimlfelogdlaaGreatDoor.V
end
section
namespace Go.Proofs.YtigimlfelogdlaaGreatDoor.V
open Go Go.Vm
set_option linter.unusedVariables false
set_option linter.unusedSimpArgs false
abbrev Cf := Int × Int × Int × Int × Int
def inB (a b c : Int) : Bool := decide (a ≥ b) && decide (a ≤ c)
theorem within_is (k : Nat) (a b c : Int) : cluster_within k a b c = some (inB a b c) := by
  rw [cluster_within_eq]
  unfold inB
  cases decide (a ≥ b) <;> rfl
def rightB (c : Cf) : Bool := inB c.1 1 3 && (inB c.2.1 1 4 && (inB c.2.2.1 1 4 && (inB c.2.2.2.1 0 1048576 && inB c.2.2.2.2 1 256)))
theorem right_is (c : Cf) : Ev (fun k => cluster_Right k c) (rightB c) := Ev.at_ fun k => by
  rw [cluster_Right_eq]
  simp only [within_is, Option.bind_some]
  unfold rightB
  cases inB c.1 1 3 <;> cases inB c.2.1 1 4 <;> cases inB c.2.2.1 1 4 <;> cases inB c.2.2.2.1 0 1048576 <;> rfl
def usualC : Cf := (1, 1, 1, 65536, 256)
theorem usual_is : Ev (fun k => script_usual k) usualC := Ev.at_ fun k => script_usual_eq k
def stepSt (st : Int × List Sp) (line : ByteArray) : Int × List Sp := bif (stepF line).2 then (st.1, st.2 ++ [(stepF line).1]) else (st.1 + 1, st.2)
theorem c10_is (ls : List ByteArray) (hls : ∀ l ∈ ls, l.size ≤ 4000000) (hn : ls.length ≤ 1000000) (bad : Int) (h0 : 0 ≤ bad) (h1 : bad ≤ 1) (b2 c : Cf) :
    Ev (fun k => script_Parse.c10 k bad [] ls (ls.length : Int) 0 b2 c) (c, (ls.foldl stepSt (bad, [])).2, (ls.foldl stepSt (bad, [])).1) := by
  refine Ev.fold0 ls (fun k st i => script_Parse.c10 k st.1 st.2 ls (ls.length : Int) i b2 c) stepSt (fun st => (c, st.2, st.1)) (fun i st => st.2.length ≤ i ∧ 0 ≤ st.1 ∧ st.1 ≤ (i : Int) + 1) (bad, []) ⟨Nat.le_refl _, h0, by show bad ≤ ((0 : Nat) : Int) + 1; omega⟩ ?_ ?_
  · intro st h
    exact Ev.step (fun k => script_Parse.c10_eq k _ _ _ _ _ _ _) (Ev.bif_ff (lt_ff (Nat.lt_irrefl _)) (Ev.some _))
  · rintro i ⟨bd, out⟩ hi ⟨g1, g2, g3⟩
    simp only at g1 g2 g3
    have hstep := script_step_is ls[i] (hls _ (List.getElem_mem hi))
    unfold stepSt
    cases hb : (stepF ls[i]).2 with
    | true =>
      refine ⟨⟨by rw [cond_true, List.length_append]; show out.length + 1 ≤ i + 1; omega, g2, by show bd ≤ ((i + 1 : Nat) : Int) + 1; omega⟩, fun r hr => ?_⟩
      refine Ev.step (fun k => script_Parse.c10_eq k _ _ _ _ _ _ _) (Ev.bif_tt (lt_tt hi) (Ev.bif_tt (inI_tt hi) ?_))
      rw [getD_at hi]
      refine Ev.bind hstep ?_
      rw [hb, wrap_at (by omega)]
      exact Ev.bif_ff rfl (Ev.bif_tt (lt32 (by show out.length + 1 < 4294967296; omega)) hr)
    | false =>
      refine ⟨⟨by show out.length ≤ i + 1; omega, by show 0 ≤ bd + 1; omega, by show bd + 1 ≤ ((i + 1 : Nat) : Int) + 1; omega⟩, fun r hr => ?_⟩
      refine Ev.step (fun k => script_Parse.c10_eq k _ _ _ _ _ _ _) (Ev.bif_tt (lt_tt hi) (Ev.bif_tt (inI_tt hi) ?_))
      rw [getD_at hi]
      refine Ev.bind hstep ?_
      rw [hb, wrap_at (by omega)]
      refine Ev.bif_tt rfl ?_
      rw [wrap_id (by omega) (by omega)]
      exact hr
def lines (s : ByteArray) : List ByteArray := (splitL 10 s.data.toList).map ofL
def five : List Bool := [true, true, true, true, true]
def cfOf (y : St') : Cf := (newI y 0 0, newI y 1 0, newI y 2 0, newI y 3 0, newI y 4 0)
def firstF (l : ByteArray) : Cf × Int :=
  bif (takeT (partsOf l) [] five).1 && rightB (cfOf (takeT (partsOf l) [] five).2) then (cfOf (takeT (partsOf l) [] five).2, 0) else (usualC, 1)
def parseF (s : ByteArray) : Cf × List Sp × Int :=
  bif decide ((s.size : Int) > 32768) then (usualC, [], -1) else
    ((firstF ((lines s).headD ⟨#[]⟩)).1, ((lines s).tail.foldl stepSt ((firstF ((lines s).headD ⟨#[]⟩)).2, [])).2, ((lines s).tail.foldl stepSt ((firstF ((lines s).headD ⟨#[]⟩)).2, [])).1)
theorem lines_cons (s : ByteArray) : ∃ w l, lines s = w :: l := ⟨_, _, rfl⟩
theorem script_Parse_is (s : ByteArray) : Ev (fun k => script_Parse k s) (parseF s) := by
  refine Ev.congr (script_Parse_eq · s) ?_
  unfold parseF
  cases hb : decide ((s.size : Int) > 32768) with
  | true => exact Ev.bif_tt rfl (Ev.bind usual_is (Ev.some _))
  | false =>
    have hs : s.size ≤ 32768 := by have := of_decide_eq_false hb; omega
    refine Ev.bif_ff rfl ?_
    rw [split_is 10 (by omega)]
    show Ev (fun k => bif (inI 0 (lines s).length) then _ else _) _
    have hlen : (lines s).length ≤ s.size + 1 := split_len 10 s
    have hmem : ∀ l ∈ lines s, l.size ≤ 4000000 := fun l hl => by have := split_mem (c := 10) (s := s) hl; omega
    obtain ⟨w, l, hw⟩ := lines_cons s
    have htail : ∀ c bad, 0 ≤ bad → bad ≤ 1 → Ev (fun k => script_Parse.c8 k (lines s) bad (Ty.zero Ty_cluster_Config) c) (c, ((lines s).tail.foldl stepSt (bad, [])).2, ((lines s).tail.foldl stepSt (bad, [])).1) := fun c bad h0 h1 => by
      refine Ev.step (fun k => script_Parse.c8_eq k _ _ _ _) (Ev.bif_tt (rng1 (by rw [hw]; simp)) ?_)
      rw [drop1]
      exact c10_is _ (fun l hl => hmem l (List.mem_of_mem_tail hl)) (by rw [List.length_tail]; omega) bad h0 h1 _ c
    refine Ev.bif_tt (inI_tt (i := 0) (by rw [hw]; simp)) ?_
    have e : (lines s).getD (Int.toNat 0) (⟨#[]⟩ : ByteArray) = w := by rw [hw]; rfl
    have e' : (lines s).headD (⟨#[]⟩ : ByteArray) = w := by rw [hw]; rfl
    rw [e']
    show Ev (fun k => (script_Parts k ((lines s).getD (Int.toNat 0) (⟨#[]⟩ : ByteArray))).bind _) _
    rw [e]
    refine Ev.bind (script_Parts_is w (hmem w (by rw [hw]; simp))) ?_
    rw [take_at (ks := [true, true, true, true, true]) (by decide) (fun i hi => by
      exfalso
      match i with
      | 0 | 1 | 2 | 3 | 4 => cases hi
      | i + 5 => simp at hi)]
    show Ev (fun k => bif (!(takeT (partsOf w) [] five).1) then _ else _) _
    unfold firstF
    cases hz : (takeT (partsOf w) [] five).1 with
    | false => exact Ev.bif_tt rfl (Ev.bind usual_is (htail _ _ (by decide) (by decide)))
    | true =>
      refine Ev.bif_ff rfl (Ev.bind (right_is (cfOf (takeT (partsOf w) [] five).2)) ?_)
      cases hr : rightB (cfOf (takeT (partsOf w) [] five).2) with
      | false => exact Ev.bif_tt rfl (Ev.bind usual_is (htail _ _ (by decide) (by decide)))
      | true => exact Ev.bif_ff rfl (htail _ _ (by decide) (by decide))
def awakeText : ByteArray := ⟨#[49, 32, 49, 32, 49, 32, 57, 57, 57, 57, 32, 57, 10, 98, 32, 48, 10, 119, 32, 48, 32, 97, 32, 120, 10, 99, 32, 48]⟩
theorem awake_is : Ev (fun k => althinglaw21_awake k) true := by
  refine Ev.congr (althinglaw21_awake_eq ·) (Ev.bind (script_Parse_is awakeText) ?_)
  refine Ev.bif_tt (by kernel_rfl) (Ev.bif_tt (by kernel_rfl) (Ev.bif_tt (by kernel_rfl) (Ev.bif_tt (by kernel_rfl) (Ev.bif_tt (by kernel_rfl) ?_))))
  exact Ev.to (Ev.map_ (· == 8594) (script_Rune_is 13)) (by decide +kernel)
theorem awake_ret : Ev (fun k => (althinglaw21_awake k).bind fun r => some r) true := Ev.ret awake_is
end Go.Proofs.YtigimlfelogdlaaGreatDoor.V
end
section
namespace Go.Proofs.YtigimlfelogdlaaGreatDoor.V
open Go Go.Vm
set_option linter.unusedVariables false
set_option linter.unusedSimpArgs false
theorem right20_is (c : Cf) : Ev (fun k => althingref20_Right k c) (rightB c) := Ev.at_ fun k => by
  rw [althingref20_Right_eq]
  unfold rightB inB
  cases decide (c.1 ≥ 1) <;> cases decide (c.1 ≤ 3) <;> cases decide (c.2.1 ≥ 1) <;> cases decide (c.2.1 ≤ 4) <;> cases decide (c.2.2.1 ≥ 1) <;> cases decide (c.2.2.1 ≤ 4) <;> cases decide (c.2.2.2.1 ≥ 0) <;> cases decide (c.2.2.2.1 ≤ 1048576) <;> cases decide (c.2.2.2.2 ≥ 1) <;> rfl
theorem c24_is (ls : List ByteArray) (hls : ∀ l ∈ ls, l.size ≤ 4000000) (hn : ls.length ≤ 1000000) (h1 : 1 ≤ ls.length) (bad : Int) (h0 : 0 ≤ bad) (hb : bad ≤ 1) (b2 c : Cf) :
    Ev (fun k => althingref21_Parse.c24 k ls bad [] 1 b2 c) (c, (ls.tail.foldl stepSt (bad, [])).2, (ls.tail.foldl stepSt (bad, [])).1) := by
  have := Ev.fold ls (fun k st i => althingref21_Parse.c24 k ls st.1 st.2 i b2 c) stepSt (fun st => (c, st.2, st.1)) (fun i st => st.2.length ≤ i ∧ 0 ≤ st.1 ∧ st.1 ≤ (i : Int) + 1) ?_ ?_ (ls.length - 1) 1 (bad, []) (by omega) ⟨by simp, h0, by show bad ≤ ((1 : Nat) : Int) + 1; omega⟩
  · rw [List.drop_one] at this
    exact this
  · intro st h
    exact Ev.step (fun k => althingref21_Parse.c24_eq k _ _ _ _ _ _) (Ev.bif_ff (lt_ff (Nat.lt_irrefl _)) (Ev.some _))
  · rintro i ⟨bd, out⟩ hi ⟨g1, g2, g3⟩
    simp only at g1 g2 g3
    have hstep := ref_Step_is ls[i] (hls _ (List.getElem_mem hi))
    unfold stepSt
    cases hb : (stepF ls[i]).2 with
    | true =>
      refine ⟨⟨by rw [cond_true, List.length_append]; show out.length + 1 ≤ i + 1; omega, g2, by show bd ≤ ((i + 1 : Nat) : Int) + 1; omega⟩, fun r hr => ?_⟩
      refine Ev.step (fun k => althingref21_Parse.c24_eq k _ _ _ _ _ _) (Ev.bif_tt (lt_tt hi) (Ev.bif_tt (inI_tt hi) ?_))
      rw [getD_at hi]
      refine Ev.bind hstep ?_
      rw [hb, wrap_at (by omega)]
      exact Ev.bif_tt rfl (Ev.bif_tt (lt32 (by show out.length + 1 < 4294967296; omega)) hr)
    | false =>
      refine ⟨⟨by show out.length ≤ i + 1; omega, by show 0 ≤ bd + 1; omega, by show bd + 1 ≤ ((i + 1 : Nat) : Int) + 1; omega⟩, fun r hr => ?_⟩
      refine Ev.step (fun k => althingref21_Parse.c24_eq k _ _ _ _ _ _) (Ev.bif_tt (lt_tt hi) (Ev.bif_tt (inI_tt hi) ?_))
      rw [getD_at hi]
      refine Ev.bind hstep ?_
      rw [hb, wrap_at (by omega)]
      refine Ev.bif_ff rfl ?_
      rw [wrap_id (by omega) (by omega)]
      exact hr
def numSt (acc : List Int) (w : ByteArray) : List Int := bif (numOfB w).2 then acc ++ [(numOfB w).1] else acc
theorem numSt_len : ∀ (ws : List ByteArray) (acc : List Int), (ws.foldl numSt acc).length ≤ acc.length + ws.length ∧ ((ws.foldl numSt acc).length = acc.length + ws.length → (∀ w ∈ ws, (numOfB w).2 = true) ∧ ws.foldl numSt acc = acc ++ ws.map fun w => (numOfB w).1)
  | [], acc => ⟨by simp, fun _ => ⟨fun w h => (by cases h), by simp⟩⟩
  | w :: ws, acc => by
    rw [List.foldl_cons]
    obtain ⟨h1, h2⟩ := numSt_len ws (numSt acc w)
    unfold numSt at h1 h2 ⊢
    cases hn : (numOfB w).2 with
    | true =>
      rw [hn] at h1 h2
      simp only [cond_true, List.length_append, List.length_cons, List.length_nil] at h1 h2 ⊢
      refine ⟨by omega, fun h => ?_⟩
      obtain ⟨h3, h4⟩ := h2 (by omega)
      refine ⟨fun x hx => ?_, by rw [h4]; simp⟩
      rcases List.mem_cons.1 hx with rfl | hx
      · exact hn
      · exact h3 x hx
    | false =>
      rw [hn] at h1 h2
      simp only [cond_false, List.length_cons] at h1 h2 ⊢
      exact ⟨by omega, fun h => by omega⟩
theorem numSt_all : ∀ (ws : List ByteArray) (acc : List Int), (∀ w ∈ ws, (numOfB w).2 = true) → ws.foldl numSt acc = acc ++ ws.map fun w => (numOfB w).1
  | [], acc, _ => by simp
  | w :: ws, acc, h => by
    rw [List.foldl_cons]
    unfold numSt
    rw [h w (by simp), cond_true]
    have := numSt_all ws (acc ++ [(numOfB w).1]) (fun x hx => h x (by simp [hx]))
    unfold numSt at this
    rw [this]; simp
theorem ref_Parse_is (s : ByteArray) : Ev (fun k => althingref21_Parse k s) (parseF s) := by
  refine Ev.congr (althingref21_Parse_eq · s) ?_
  unfold parseF
  cases hb : decide ((s.size : Int) > 32768) with
  | true => exact Ev.bif_tt rfl (Ev.some _)
  | false =>
    have hs : s.size ≤ 32768 := by have := of_decide_eq_false hb; omega
    refine Ev.bif_ff rfl (Ev.bind (a := lines s) (ref_split_is s (by omega) 10) ?_)
    have hlen : (lines s).length ≤ s.size + 1 := split_len 10 s
    have hmem : ∀ l ∈ lines s, l.size ≤ 4000000 := fun l hl => by have := split_mem (c := 10) (s := s) hl; omega
    have hmem2 : ∀ l ∈ lines s, l.size ≤ 32768 := fun l hl => by have := split_mem (c := 10) (s := s) hl; omega
    obtain ⟨w, l, hw⟩ := lines_cons s
    have e : (lines s).getD (Int.toNat 0) (⟨#[]⟩ : ByteArray) = w := by rw [hw]; rfl
    have e' : (lines s).headD (⟨#[]⟩ : ByteArray) = w := by rw [hw]; rfl
    rw [e']
    have hwm : w ∈ lines s := by rw [hw]; simp
    refine Ev.bif_tt (inI_tt (i := 0) (by rw [hw]; simp)) ?_
    show Ev (fun k => (althingref21_Parts k ((lines s).getD (Int.toNat 0) (⟨#[]⟩ : ByteArray))).bind _) _
    rw [e]
    refine Ev.bind (ref_Parts_is w (hmem w hwm)) ?_
    have hwl : (words w).length ≤ 32769 := by have := split_len 32 w; have := hmem2 w hwm; show ((splitL 32 w.data.toList).map ofL).length ≤ 32769; omega
    have hwm2 : ∀ p ∈ words w, p.size ≤ 4000000 := fun p hp => Nat.le_trans (split_mem (c := 32) hp) (hmem w hwm)
    have htail : ∀ c bad, 0 ≤ bad → bad ≤ 1 → Ev (fun k => althingref21_Parse.c24 k (lines s) bad [] 1 (Ty.zero Ty_cluster_Config) c) (c, ((lines s).tail.foldl stepSt (bad, [])).2, ((lines s).tail.foldl stepSt (bad, [])).1) := fun c bad h0 h1 =>
      c24_is _ hmem (by omega) (by rw [hw]; simp) bad h0 h1 _ c
    have hbad : ∀ c, Ev (fun k => althingref21_Parse.c19 k (lines s) 0 false (Ty.zero Ty_cluster_Config) usualC c) (usualC, ((lines s).tail.foldl stepSt (1, [])).2, ((lines s).tail.foldl stepSt (1, [])).1) := fun c =>
      Ev.step (fun k => althingref21_Parse.c19_eq k _ _ _ _ _ _) (Ev.bif_tt rfl (htail _ _ (by decide) (by decide)))
    generalize hres : ((firstF w).1, ((lines s).tail.foldl stepSt ((firstF w).2, [])).2, ((lines s).tail.foldl stepSt ((firstF w).2, [])).1) = res
    refine Ev.fold0 (words w) (fun k acc i => althingref21_Parse.c10 k (lines s) 0 (words w) acc i (Ty.zero Ty_cluster_Config) usualC usualC) numSt (fun _ => res) (fun i acc => acc.length ≤ i ∧ acc = ((words w).take i).foldl numSt []) [] ⟨Nat.le_refl _, rfl⟩ ?_ ?_
    · rintro acc ⟨ha, hacc⟩
      rw [List.take_length] at hacc
      refine Ev.step (fun k => althingref21_Parse.c10_eq k _ _ _ _ _ _ _ _) (Ev.bif_ff (lt_ff (Nat.lt_irrefl _)) ?_)
      by_cases h5 : (words w).length = 5
      · refine Ev.bif_tt (by rw [beq_iff_eq]; omega) ?_
        by_cases ha5 : acc.length = 5
        · refine Ev.bif_tt (by rw [beq_iff_eq]; omega) ?_
          have hall := (numSt_len (words w) []).2 (by rw [← hacc]; simp only [List.length_nil]; omega)
          rw [← hacc] at hall
          have hacc2 := hall.2
          match hws : words w, h5 with
          | [w0, w1, w2, w3, w4], _ =>
            rw [hws] at hacc2 hall
            have hfit : takeT (partsOf w) [] five = (true, [.inl (numOfB w0).1, .inl (numOfB w1).1, .inl (numOfB w2).1, .inl (numOfB w3).1, .inl (numOfB w4).1]) := by
              have hp : partsOf w = [some (.inl (numOfB w0).1), some (.inl (numOfB w1).1), some (.inl (numOfB w2).1), some (.inl (numOfB w3).1), some (.inl (numOfB w4).1)] := by
                unfold partsOf
                rw [hws]
                simp only [List.map_cons, List.map_nil]
                rw [partOf_num (hall.1 w0 (by simp)), partOf_num (hall.1 w1 (by simp)), partOf_num (hall.1 w2 (by simp)), partOf_num (hall.1 w3 (by simp)), partOf_num (hall.1 w4 (by simp))]
              rw [hp]; rfl
            have hff : firstF w = bif rightB ((numOfB w0).1, (numOfB w1).1, (numOfB w2).1, (numOfB w3).1, (numOfB w4).1) then (((numOfB w0).1, (numOfB w1).1, (numOfB w2).1, (numOfB w3).1, (numOfB w4).1), 0) else (usualC, 1) := by
              unfold firstF
              rw [hfit]; rfl
            rw [hff] at hres
            have hacc3 : acc = [(numOfB w0).1, (numOfB w1).1, (numOfB w2).1, (numOfB w3).1, (numOfB w4).1] := hacc2
            subst hacc3
            refine Ev.step (fun k => althingref21_Parse.c17_eq k _ _ _ _ _ _) ?_
            refine Ev.bif_tt rfl (Ev.bif_tt rfl (Ev.bif_tt rfl (Ev.bif_tt rfl (Ev.bif_tt rfl (Ev.bif_tt rfl (Ev.bif_tt rfl (Ev.bif_tt rfl (Ev.bif_tt rfl (Ev.bif_tt rfl ?_)))))))))
            refine Ev.bind (right20_is ((numOfB w0).1, (numOfB w1).1, (numOfB w2).1, (numOfB w3).1, (numOfB w4).1)) ?_
            cases hr : rightB ((numOfB w0).1, (numOfB w1).1, (numOfB w2).1, (numOfB w3).1, (numOfB w4).1) with
            | true =>
              rw [hr] at hres
              rw [← hres]
              exact Ev.step (fun k => althingref21_Parse.c19_eq k _ _ _ _ _ _) (Ev.bif_ff rfl (htail _ _ (by decide) (by decide)))
            | false =>
              rw [hr] at hres
              rw [← hres]
              exact hbad _
        · have hff : firstF w = (usualC, 1) := by
            unfold firstF
            cases hz : (takeT (partsOf w) [] five).1 with
            | false => rfl
            | true =>
              exfalso
              have hfit : fitB five (partsOf w) = true := by
                rw [← hz]
                exact (takeT_fit (by decide) (fun i hi => by
                  exfalso
                  match i with
                  | 0 | 1 | 2 | 3 | 4 => cases hi
                  | i + 5 => simp [five] at hi)).symm
              unfold partsOf at hfit
              match hws : words w, h5 with
              | [w0, w1, w2, w3, w4], _ =>
                rw [hws] at hfit
                rw [fitB_all five [w0, w1, w2, w3, w4] rfl] at hfit
                simp [five, okK] at hfit
                apply ha5
                rw [hacc, hws, numSt_all _ _ (fun x hx => by
                  simp at hx
                  rcases hx with rfl | rfl | rfl | rfl | rfl
                  · exact hfit.1
                  · exact hfit.2.1
                  · exact hfit.2.2.1
                  · exact hfit.2.2.2.1
                  · exact hfit.2.2.2.2)]
                rfl
          rw [hff] at hres
          rw [← hres]
          exact Ev.bif_ff (by rw [beq_eq_false_iff_ne]; omega) (hbad _)
      · have hff : firstF w = (usualC, 1) := by
          unfold firstF
          cases hz : (takeT (partsOf w) [] five).1 with
          | false => rfl
          | true =>
            exfalso
            have hfit : fitB five (partsOf w) = true := by
              rw [← hz]
              exact (takeT_fit (by decide) (fun i hi => by
                exfalso
                match i with
                | 0 | 1 | 2 | 3 | 4 => cases hi
                | i + 5 => simp [five] at hi)).symm
            have := fitB_len _ _ hfit
            unfold partsOf at this
            rw [List.length_map] at this
            exact h5 this
        rw [hff] at hres
        rw [← hres]
        exact Ev.bif_ff (by rw [beq_eq_false_iff_ne]; omega) (hbad _)
    · rintro i acc hi ⟨ha, hacc⟩
      refine ⟨⟨?_, ?_⟩, fun r hr => ?_⟩
      · unfold numSt
        cases (numOfB (words w)[i]).2 with
        | true => rw [cond_true, List.length_append]; show acc.length + 1 ≤ i + 1; omega
        | false => show acc.length ≤ i + 1; omega
      · rw [foldl_take _ _ _ _ hi, ← hacc]
      · refine Ev.step (fun k => althingref21_Parse.c10_eq k _ _ _ _ _ _ _ _) (Ev.bif_tt (lt_tt hi) (Ev.bif_tt (inI_tt hi) ?_))
        rw [getD_at hi]
        refine Ev.bind (ref_Number_is _) ?_
        rw [wrap_at (by omega)]
        unfold numSt at hr
        cases hn : (numOfB (words w)[i]).2 with
        | true =>
          rw [hn] at hr
          exact Ev.bif_tt rfl (Ev.bif_tt (lt32 (by omega)) hr)
        | false =>
          rw [hn] at hr
          exact Ev.bif_ff rfl hr
end Go.Proofs.YtigimlfelogdlaaGreatDoor.V
end
section
namespace Go.Proofs.YtigimlfelogdlaaGreatDoor.V
open Go Go.Vm
theorem beq_cf (x : Cf) : Ty.beq Ty_cluster_Config x x = true := by
  show ((x.1 == x.1) && ((x.2.1 == x.2.1) && ((x.2.2.1 == x.2.2.1) && ((x.2.2.2.1 == x.2.2.2.1) && (x.2.2.2.2 == x.2.2.2.2))))) = true
  simp
theorem beq_sp (x : Sp) : Ty.beq Ty_cluster_Step x x = true := by
  show ((x.1 == x.1) && ((x.2.1 == x.2.1) && ((x.2.2.1 == x.2.2.1) && ((x.2.2.2.1 == x.2.2.2.1) && ((x.2.2.2.2.1 == x.2.2.2.2.1) && ((x.2.2.2.2.2.1 == x.2.2.2.2.2.1) && ((x.2.2.2.2.2.2.1 == x.2.2.2.2.2.2.1) && (decide (x.2.2.2.2.2.2.2.1 = x.2.2.2.2.2.2.2.1) && decide (x.2.2.2.2.2.2.2.2 = x.2.2.2.2.2.2.2.2))))))))) = true
  simp
end Go.Proofs.YtigimlfelogdlaaGreatDoor.V
end
section
namespace Go.Proofs.YtigimlfelogdlaaGreatDoor.V
open Go Go.Vm
set_option linter.unusedVariables false
set_option linter.unusedSimpArgs false
theorem steps_loop (l : List Sp) (hl : l.length ≤ 100000) : ∀ d i, i + d = l.length → Ev (fun k => althinglaw21_steps.c4 k l l (l.length : Int) (i : Int)) true
  | 0, i, h => Ev.step (fun k => althinglaw21_steps.c4_eq k _ _ _ _) (Ev.bif_ff (lt_ff (by omega)) (Ev.some _))
  | d + 1, i, h => by
    have hi : i < l.length := by omega
    refine Ev.step (fun k => althinglaw21_steps.c4_eq k _ _ _ _) (Ev.bif_tt (lt_tt hi) (Ev.bif_tt (inI_tt hi) (Ev.bif_tt (inI_tt hi) ?_)))
    refine Ev.bind (a := l.getD (Int.toNat (i : Int)) (Ty.zero Ty_cluster_Step)) (Ev.at_ fun k => althinglaw20_Given_eq k _) (Ev.bif_ff ?_ ?_)
    · rw [beq_sp]; rfl
    · rw [wrap_at (by omega)]
      exact steps_loop l hl d (i + 1) (by omega)
theorem steps_is (l : List Sp) (hl : l.length ≤ 100000) : Ev (fun k => althinglaw21_steps k l l) true :=
  Ev.congr (fun k => althinglaw21_steps_eq k l l) (Ev.bif_ff (by simp) (steps_loop l hl l.length 0 (by omega)))
theorem parse_len (s : ByteArray) (hs : s.size ≤ 32768) : (parseF s).2.1.length ≤ 100000 := by
  unfold parseF
  rw [decide_eq_false (by omega : ¬ (s.size : Int) > 32768)]
  have h : ∀ (ls : List ByteArray) (st : Int × List Sp), (ls.foldl stepSt st).2.length ≤ st.2.length + ls.length := by
    intro ls
    induction ls with
    | nil => intro st; exact Nat.le_refl _
    | cons l ls ih =>
      intro st
      rw [List.foldl_cons]
      refine Nat.le_trans (ih _) ?_
      unfold stepSt
      cases (stepF l).2 with
      | true => simp only [cond_true, List.length_append, List.length_cons, List.length_nil]; omega
      | false => simp only [cond_false, List.length_cons]; omega
  have := h (lines s).tail ((firstF ((lines s).headD ⟨#[]⟩)).2, [])
  have hl : (lines s).length ≤ s.size + 1 := split_len 10 s
  rw [List.length_tail] at this
  simp only [List.length_nil] at this
  show ((lines s).tail.foldl stepSt ((firstF ((lines s).headD ⟨#[]⟩)).2, [])).2.length ≤ 100000
  omega
theorem ScriptParses_is (s : ByteArray) : Ev (fun k => althinglaw21_ScriptParses k s) true := by
  have hc3 : Ev (fun k => althinglaw21_ScriptParses.c3 k s) true := by
    refine Ev.step (fun k => althinglaw21_ScriptParses.c3_eq k _) (Ev.bind (script_Parse_is s) ?_)
    cases hb : decide ((s.size : Int) > 32768) with
    | true =>
      have hp : parseF s = (usualC, [], -1) := by unfold parseF; rw [hb]; rfl
      rw [hp]
      refine Ev.bif_tt rfl (Ev.bind (a := ([], [], 15)) ?_ ?_)
      · show Ev (fun k => (script_Parse k s).bind fun r => bif decide (r.2.2 < 0) then some ([], [], 15) else none) _
        refine Ev.bind (script_Parse_is s) ?_
        rw [hp]
        exact Ev.bif_tt (by decide) (Ev.some _)
      · exact Ev.bif_tt rfl (Ev.bif_tt rfl (Ev.bif_tt rfl (Ev.bif_tt rfl (Ev.bif_tt rfl (Ev.bif_tt rfl awake_ret)))))
    | false =>
      have hs : s.size ≤ 32768 := by have := of_decide_eq_false hb; omega
      refine Ev.bif_ff rfl (Ev.bind (ref_Parse_is s) (Ev.bif_tt (beq_cf _) (Ev.bind (steps_is _ (parse_len s hs)) (Ev.bif_tt rfl (Ev.bif_tt (by simp) awake_ret)))))
  refine Ev.congr (althinglaw21_ScriptParses_eq · s) ?_
  cases h1 : decide ((s.size : Int) > 3000) with
  | false => exact Ev.bif_ff rfl hc3
  | true =>
    refine Ev.bif_tt rfl ?_
    cases h2 : decide ((s.size : Int) ≤ 32768) with
    | true => exact Ev.bif_tt rfl awake_ret
    | false => exact Ev.bif_ff rfl hc3
theorem pure_ScriptParses (zs : dens ([Ty.str].map PK.val)) (h : WfAll _ zs) : ∃ k, app _ (althinglaw21_ScriptParses k) zs = some true := (ScriptParses_is zs.1).out
end Go.Proofs.YtigimlfelogdlaaGreatDoor.V
end
