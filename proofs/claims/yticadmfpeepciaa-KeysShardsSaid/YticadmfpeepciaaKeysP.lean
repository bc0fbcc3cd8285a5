/- What package keys and its reference compute, in plain Lean: runes, weights. -/
import Derived.Test.YticadmfpeepciaaPKeysShardsx3
import Derived.Lib.RuneCountTail
import Derived.Lib.TrimU
import Derived.Lib.OthersKept
namespace Go.Proofs.Yticadmfpeepciaa.Keys
open Go.RowKit Go.Proofs.YticadmfpeepciaaW.PrintWords Go.Proofs.YticadmfpeepciaaW.PrintLast Go.Proofs.YticadmfpeepciaaW.PrintMore Go.Proofs.Yticadmfpeepciaa.PKeysShards
set_option linter.unusedSimpArgs false
set_option linter.unusedVariables false
theorem bt_get (s : ByteArray) (i : Nat) : bt s (i : Int) = ((s.get! i).toNat : Int) := by
  unfold bt
  rw [Int.toNat_natCast]
  split
  · rename_i h
    have := get_at s i h
    rw [Nat.add_zero] at this
    rw [this]
  · rename_i h
    rw [← Lib.getD_get!']
    have : s.data.toList.getD i 0 = 0 := by
      rw [List.getD_eq_getElem?_getD, List.getElem?_eq_none]
      · rfl
      · rw [← Lib.size_eq]; omega
    rw [this]; rfl
theorem bt_w (s : ByteArray) (i : Int) : wrap64 (bt s i) = bt s i := by
  have := bt_range s i
  unfold wrap64; omega
theorem tail_is (s : ByteArray) (i : Nat) (lo hi : Int) : althingref04_tail.f s (i : Int) lo hi = some (decide ((i : Int) < s.size ∧ lo ≤ bt s i ∧ bt s i ≤ hi)) := by
  unfold althingref04_tail.f
  rw [bt_w]
  by_cases h1 : (i : Int) < s.size
  · rw [if_pos h1, if_pos (by omega)]
    by_cases h2 : bt s i ≥ lo
    · rw [if_pos h2]; simp [h1]; intro _; exact h2
    · rw [if_neg h2]; simp [h1]; intro h3; exact absurd h3 h2
  · rw [if_neg h1]; simp [h1]
theorem tail1 (s : ByteArray) (lo hi : Int) : althingref04_tail.f s 1 lo hi = some (decide ((1 : Int) < s.size ∧ lo ≤ bt s 1 ∧ bt s 1 ≤ hi)) := tail_is s 1 lo hi
theorem tail2 (s : ByteArray) (lo hi : Int) : althingref04_tail.f s 2 lo hi = some (decide ((2 : Int) < s.size ∧ lo ≤ bt s 2 ∧ bt s 2 ≤ hi)) := tail_is s 2 lo hi
theorem tail3 (s : ByteArray) (lo hi : Int) : althingref04_tail.f s 3 lo hi = some (decide ((3 : Int) < s.size ∧ lo ≤ bt s 3 ∧ bt s 3 ≤ hi)) := tail_is s 3 lo hi
theorem wrapb (b : Nat) (h : b < 256) : wrap64 (b : Int) = b := by unfold wrap64; omega
set_option maxHeartbeats 8000000 in
set_option maxRecDepth 100000 in
theorem first_0 (k : Nat) (s : ByteArray) (hs : 0 < s.size) (hlo : 0 ≤ (s.get! 0).toNat) (hhi : (s.get! 0).toNat ≤ 127) : althingref04_first.f (k + 6) s = some (((Utf8.decode s 0).1 : Int), ((Utf8.decode s 0).2 : Int)) := by
  rw [Lib.decode_at]
  have e0 : bt s 0 = ((s.get! 0).toNat : Int) := bt_get s 0
  have e1 : bt s 1 = ((s.get! 1).toNat : Int) := bt_get s 1
  have e2 : bt s 2 = ((s.get! 2).toNat : Int) := bt_get s 2
  have e3 : bt s 3 = ((s.get! 3).toNat : Int) := bt_get s 3
  have r0 : (s.get! 0).toNat < 256 := UInt8.toNat_lt _
  have r1 : (s.get! 1).toNat < 256 := UInt8.toNat_lt _
  have r2 : (s.get! 2).toNat < 256 := UInt8.toNat_lt _
  have r3 : (s.get! 3).toNat < 256 := UInt8.toNat_lt _
  have t1 := tail1 s
  have t2 := tail2 s
  have t3 := tail3 s
  rw [Nat.sub_zero, Nat.zero_add, Nat.zero_add, Nat.zero_add]
  generalize (s.get! 0).toNat = b0 at *
  generalize (s.get! 1).toNat = b1 at *
  generalize (s.get! 2).toNat = b2 at *
  generalize (s.get! 3).toNat = b3 at *
  have u0 : wrap64 (b0 : Int) = b0 := wrapb _ r0
  have u1 : wrap64 (b1 : Int) = b1 := wrapb _ r1
  have u2 : wrap64 (b2 : Int) = b2 := wrapb _ r2
  have u3 : wrap64 (b3 : Int) = b3 := wrapb _ r3
  have hs0 : (0 < (s.size : Int)) = True := eq_true (by omega)
  have lt128 : ((b0 : Int) < 128) = True := eq_true (by omega)
  have ge194 : ((b0 : Int) ≥ 194) = False := eq_false (by omega)
  have le223 : ((b0 : Int) ≤ 223) = True := eq_true (by omega)
  have eq224 : ((b0 : Int) = 224) = False := eq_false (by omega)
  have eq237 : ((b0 : Int) = 237) = False := eq_false (by omega)
  have ge224 : ((b0 : Int) ≥ 224) = False := eq_false (by omega)
  have le239 : ((b0 : Int) ≤ 239) = True := eq_true (by omega)
  have eq240 : ((b0 : Int) = 240) = False := eq_false (by omega)
  have eq244 : ((b0 : Int) = 244) = False := eq_false (by omega)
  have ge240 : ((b0 : Int) ≥ 240) = False := eq_false (by omega)
  have le244 : ((b0 : Int) ≤ 244) = True := eq_true (by omega)
  simp only [althingref04_first.f, althingref04_first.j0, althingref04_first.j1, althingref04_first.j2, althingref04_first.j3, althingref04_first.j4, althingref04_first.j5, t1, t2, t3, Option.bind_some, e0, e1, e2, e3, u0, u1, u2, u3, hs0, decide_eq_true_eq, ↓reduceIte, Bool.false_eq_true, lt128, ge194, le223, eq224, eq237, ge224, le239, eq240, eq244, ge240, le244]
  clear t1 t2 t3 e0 e1 e2 e3 u0 u1 u2 u3 hs0 lt128 ge194 le223 eq224 eq237 ge224 le239 eq240 eq244 ge240 le244
  generalize s.size = n at *
  unfold Lib.decodeN
  (repeat' split) <;> first | rfl | (exfalso; omega) | (simp only [Option.some.injEq, Prod.mk.injEq]; refine ⟨?_, ?_⟩ <;> (try unfold wrap64) <;> omega)
set_option maxHeartbeats 8000000 in
set_option maxRecDepth 100000 in
theorem first_1 (k : Nat) (s : ByteArray) (hs : 0 < s.size) (hlo : 128 ≤ (s.get! 0).toNat) (hhi : (s.get! 0).toNat ≤ 193) : althingref04_first.f (k + 6) s = some (((Utf8.decode s 0).1 : Int), ((Utf8.decode s 0).2 : Int)) := by
  rw [Lib.decode_at]
  have e0 : bt s 0 = ((s.get! 0).toNat : Int) := bt_get s 0
  have e1 : bt s 1 = ((s.get! 1).toNat : Int) := bt_get s 1
  have e2 : bt s 2 = ((s.get! 2).toNat : Int) := bt_get s 2
  have e3 : bt s 3 = ((s.get! 3).toNat : Int) := bt_get s 3
  have r0 : (s.get! 0).toNat < 256 := UInt8.toNat_lt _
  have r1 : (s.get! 1).toNat < 256 := UInt8.toNat_lt _
  have r2 : (s.get! 2).toNat < 256 := UInt8.toNat_lt _
  have r3 : (s.get! 3).toNat < 256 := UInt8.toNat_lt _
  have t1 := tail1 s
  have t2 := tail2 s
  have t3 := tail3 s
  rw [Nat.sub_zero, Nat.zero_add, Nat.zero_add, Nat.zero_add]
  generalize (s.get! 0).toNat = b0 at *
  generalize (s.get! 1).toNat = b1 at *
  generalize (s.get! 2).toNat = b2 at *
  generalize (s.get! 3).toNat = b3 at *
  have u0 : wrap64 (b0 : Int) = b0 := wrapb _ r0
  have u1 : wrap64 (b1 : Int) = b1 := wrapb _ r1
  have u2 : wrap64 (b2 : Int) = b2 := wrapb _ r2
  have u3 : wrap64 (b3 : Int) = b3 := wrapb _ r3
  have hs0 : (0 < (s.size : Int)) = True := eq_true (by omega)
  have lt128 : ((b0 : Int) < 128) = False := eq_false (by omega)
  have ge194 : ((b0 : Int) ≥ 194) = False := eq_false (by omega)
  have le223 : ((b0 : Int) ≤ 223) = True := eq_true (by omega)
  have eq224 : ((b0 : Int) = 224) = False := eq_false (by omega)
  have eq237 : ((b0 : Int) = 237) = False := eq_false (by omega)
  have ge224 : ((b0 : Int) ≥ 224) = False := eq_false (by omega)
  have le239 : ((b0 : Int) ≤ 239) = True := eq_true (by omega)
  have eq240 : ((b0 : Int) = 240) = False := eq_false (by omega)
  have eq244 : ((b0 : Int) = 244) = False := eq_false (by omega)
  have ge240 : ((b0 : Int) ≥ 240) = False := eq_false (by omega)
  have le244 : ((b0 : Int) ≤ 244) = True := eq_true (by omega)
  simp only [althingref04_first.f, althingref04_first.j0, althingref04_first.j1, althingref04_first.j2, althingref04_first.j3, althingref04_first.j4, althingref04_first.j5, t1, t2, t3, Option.bind_some, e0, e1, e2, e3, u0, u1, u2, u3, hs0, decide_eq_true_eq, ↓reduceIte, Bool.false_eq_true, lt128, ge194, le223, eq224, eq237, ge224, le239, eq240, eq244, ge240, le244]
  clear t1 t2 t3 e0 e1 e2 e3 u0 u1 u2 u3 hs0 lt128 ge194 le223 eq224 eq237 ge224 le239 eq240 eq244 ge240 le244
  generalize s.size = n at *
  unfold Lib.decodeN
  (repeat' split) <;> first | rfl | (exfalso; omega) | (simp only [Option.some.injEq, Prod.mk.injEq]; refine ⟨?_, ?_⟩ <;> (try unfold wrap64) <;> omega)
set_option maxHeartbeats 8000000 in
set_option maxRecDepth 100000 in
theorem first_2 (k : Nat) (s : ByteArray) (hs : 0 < s.size) (hlo : 194 ≤ (s.get! 0).toNat) (hhi : (s.get! 0).toNat ≤ 223) : althingref04_first.f (k + 6) s = some (((Utf8.decode s 0).1 : Int), ((Utf8.decode s 0).2 : Int)) := by
  rw [Lib.decode_at]
  have e0 : bt s 0 = ((s.get! 0).toNat : Int) := bt_get s 0
  have e1 : bt s 1 = ((s.get! 1).toNat : Int) := bt_get s 1
  have e2 : bt s 2 = ((s.get! 2).toNat : Int) := bt_get s 2
  have e3 : bt s 3 = ((s.get! 3).toNat : Int) := bt_get s 3
  have r0 : (s.get! 0).toNat < 256 := UInt8.toNat_lt _
  have r1 : (s.get! 1).toNat < 256 := UInt8.toNat_lt _
  have r2 : (s.get! 2).toNat < 256 := UInt8.toNat_lt _
  have r3 : (s.get! 3).toNat < 256 := UInt8.toNat_lt _
  have t1 := tail1 s
  have t2 := tail2 s
  have t3 := tail3 s
  rw [Nat.sub_zero, Nat.zero_add, Nat.zero_add, Nat.zero_add]
  generalize (s.get! 0).toNat = b0 at *
  generalize (s.get! 1).toNat = b1 at *
  generalize (s.get! 2).toNat = b2 at *
  generalize (s.get! 3).toNat = b3 at *
  have u0 : wrap64 (b0 : Int) = b0 := wrapb _ r0
  have u1 : wrap64 (b1 : Int) = b1 := wrapb _ r1
  have u2 : wrap64 (b2 : Int) = b2 := wrapb _ r2
  have u3 : wrap64 (b3 : Int) = b3 := wrapb _ r3
  have hs0 : (0 < (s.size : Int)) = True := eq_true (by omega)
  have lt128 : ((b0 : Int) < 128) = False := eq_false (by omega)
  have ge194 : ((b0 : Int) ≥ 194) = True := eq_true (by omega)
  have le223 : ((b0 : Int) ≤ 223) = True := eq_true (by omega)
  have eq224 : ((b0 : Int) = 224) = False := eq_false (by omega)
  have eq237 : ((b0 : Int) = 237) = False := eq_false (by omega)
  have ge224 : ((b0 : Int) ≥ 224) = False := eq_false (by omega)
  have le239 : ((b0 : Int) ≤ 239) = True := eq_true (by omega)
  have eq240 : ((b0 : Int) = 240) = False := eq_false (by omega)
  have eq244 : ((b0 : Int) = 244) = False := eq_false (by omega)
  have ge240 : ((b0 : Int) ≥ 240) = False := eq_false (by omega)
  have le244 : ((b0 : Int) ≤ 244) = True := eq_true (by omega)
  simp only [althingref04_first.f, althingref04_first.j0, althingref04_first.j1, althingref04_first.j2, althingref04_first.j3, althingref04_first.j4, althingref04_first.j5, t1, t2, t3, Option.bind_some, e0, e1, e2, e3, u0, u1, u2, u3, hs0, decide_eq_true_eq, ↓reduceIte, Bool.false_eq_true, lt128, ge194, le223, eq224, eq237, ge224, le239, eq240, eq244, ge240, le244]
  clear t1 t2 t3 e0 e1 e2 e3 u0 u1 u2 u3 hs0 lt128 ge194 le223 eq224 eq237 ge224 le239 eq240 eq244 ge240 le244
  generalize s.size = n at *
  unfold Lib.decodeN
  (repeat' split) <;> first | rfl | (exfalso; omega) | (simp only [Option.some.injEq, Prod.mk.injEq]; refine ⟨?_, ?_⟩ <;> (try unfold wrap64) <;> omega)
set_option maxHeartbeats 8000000 in
set_option maxRecDepth 100000 in
theorem first_3 (k : Nat) (s : ByteArray) (hs : 0 < s.size) (hlo : 224 ≤ (s.get! 0).toNat) (hhi : (s.get! 0).toNat ≤ 224) : althingref04_first.f (k + 6) s = some (((Utf8.decode s 0).1 : Int), ((Utf8.decode s 0).2 : Int)) := by
  rw [Lib.decode_at]
  have e0 : bt s 0 = ((s.get! 0).toNat : Int) := bt_get s 0
  have e1 : bt s 1 = ((s.get! 1).toNat : Int) := bt_get s 1
  have e2 : bt s 2 = ((s.get! 2).toNat : Int) := bt_get s 2
  have e3 : bt s 3 = ((s.get! 3).toNat : Int) := bt_get s 3
  have r0 : (s.get! 0).toNat < 256 := UInt8.toNat_lt _
  have r1 : (s.get! 1).toNat < 256 := UInt8.toNat_lt _
  have r2 : (s.get! 2).toNat < 256 := UInt8.toNat_lt _
  have r3 : (s.get! 3).toNat < 256 := UInt8.toNat_lt _
  have t1 := tail1 s
  have t2 := tail2 s
  have t3 := tail3 s
  rw [Nat.sub_zero, Nat.zero_add, Nat.zero_add, Nat.zero_add]
  generalize (s.get! 0).toNat = b0 at *
  generalize (s.get! 1).toNat = b1 at *
  generalize (s.get! 2).toNat = b2 at *
  generalize (s.get! 3).toNat = b3 at *
  have u0 : wrap64 (b0 : Int) = b0 := wrapb _ r0
  have u1 : wrap64 (b1 : Int) = b1 := wrapb _ r1
  have u2 : wrap64 (b2 : Int) = b2 := wrapb _ r2
  have u3 : wrap64 (b3 : Int) = b3 := wrapb _ r3
  have hs0 : (0 < (s.size : Int)) = True := eq_true (by omega)
  have lt128 : ((b0 : Int) < 128) = False := eq_false (by omega)
  have ge194 : ((b0 : Int) ≥ 194) = True := eq_true (by omega)
  have le223 : ((b0 : Int) ≤ 223) = False := eq_false (by omega)
  have eq224 : ((b0 : Int) = 224) = True := eq_true (by omega)
  have eq237 : ((b0 : Int) = 237) = False := eq_false (by omega)
  have ge224 : ((b0 : Int) ≥ 224) = True := eq_true (by omega)
  have le239 : ((b0 : Int) ≤ 239) = True := eq_true (by omega)
  have eq240 : ((b0 : Int) = 240) = False := eq_false (by omega)
  have eq244 : ((b0 : Int) = 244) = False := eq_false (by omega)
  have ge240 : ((b0 : Int) ≥ 240) = False := eq_false (by omega)
  have le244 : ((b0 : Int) ≤ 244) = True := eq_true (by omega)
  simp only [althingref04_first.f, althingref04_first.j0, althingref04_first.j1, althingref04_first.j2, althingref04_first.j3, althingref04_first.j4, althingref04_first.j5, t1, t2, t3, Option.bind_some, e0, e1, e2, e3, u0, u1, u2, u3, hs0, decide_eq_true_eq, ↓reduceIte, Bool.false_eq_true, lt128, ge194, le223, eq224, eq237, ge224, le239, eq240, eq244, ge240, le244]
  clear t1 t2 t3 e0 e1 e2 e3 u0 u1 u2 u3 hs0 lt128 ge194 le223 eq224 eq237 ge224 le239 eq240 eq244 ge240 le244
  generalize s.size = n at *
  unfold Lib.decodeN
  (repeat' split) <;> first | rfl | (exfalso; omega) | (simp only [Option.some.injEq, Prod.mk.injEq]; refine ⟨?_, ?_⟩ <;> (try unfold wrap64) <;> omega)
set_option maxHeartbeats 8000000 in
set_option maxRecDepth 100000 in
theorem first_4 (k : Nat) (s : ByteArray) (hs : 0 < s.size) (hlo : 225 ≤ (s.get! 0).toNat) (hhi : (s.get! 0).toNat ≤ 236) : althingref04_first.f (k + 6) s = some (((Utf8.decode s 0).1 : Int), ((Utf8.decode s 0).2 : Int)) := by
  rw [Lib.decode_at]
  have e0 : bt s 0 = ((s.get! 0).toNat : Int) := bt_get s 0
  have e1 : bt s 1 = ((s.get! 1).toNat : Int) := bt_get s 1
  have e2 : bt s 2 = ((s.get! 2).toNat : Int) := bt_get s 2
  have e3 : bt s 3 = ((s.get! 3).toNat : Int) := bt_get s 3
  have r0 : (s.get! 0).toNat < 256 := UInt8.toNat_lt _
  have r1 : (s.get! 1).toNat < 256 := UInt8.toNat_lt _
  have r2 : (s.get! 2).toNat < 256 := UInt8.toNat_lt _
  have r3 : (s.get! 3).toNat < 256 := UInt8.toNat_lt _
  have t1 := tail1 s
  have t2 := tail2 s
  have t3 := tail3 s
  rw [Nat.sub_zero, Nat.zero_add, Nat.zero_add, Nat.zero_add]
  generalize (s.get! 0).toNat = b0 at *
  generalize (s.get! 1).toNat = b1 at *
  generalize (s.get! 2).toNat = b2 at *
  generalize (s.get! 3).toNat = b3 at *
  have u0 : wrap64 (b0 : Int) = b0 := wrapb _ r0
  have u1 : wrap64 (b1 : Int) = b1 := wrapb _ r1
  have u2 : wrap64 (b2 : Int) = b2 := wrapb _ r2
  have u3 : wrap64 (b3 : Int) = b3 := wrapb _ r3
  have hs0 : (0 < (s.size : Int)) = True := eq_true (by omega)
  have lt128 : ((b0 : Int) < 128) = False := eq_false (by omega)
  have ge194 : ((b0 : Int) ≥ 194) = True := eq_true (by omega)
  have le223 : ((b0 : Int) ≤ 223) = False := eq_false (by omega)
  have eq224 : ((b0 : Int) = 224) = False := eq_false (by omega)
  have eq237 : ((b0 : Int) = 237) = False := eq_false (by omega)
  have ge224 : ((b0 : Int) ≥ 224) = True := eq_true (by omega)
  have le239 : ((b0 : Int) ≤ 239) = True := eq_true (by omega)
  have eq240 : ((b0 : Int) = 240) = False := eq_false (by omega)
  have eq244 : ((b0 : Int) = 244) = False := eq_false (by omega)
  have ge240 : ((b0 : Int) ≥ 240) = False := eq_false (by omega)
  have le244 : ((b0 : Int) ≤ 244) = True := eq_true (by omega)
  simp only [althingref04_first.f, althingref04_first.j0, althingref04_first.j1, althingref04_first.j2, althingref04_first.j3, althingref04_first.j4, althingref04_first.j5, t1, t2, t3, Option.bind_some, e0, e1, e2, e3, u0, u1, u2, u3, hs0, decide_eq_true_eq, ↓reduceIte, Bool.false_eq_true, lt128, ge194, le223, eq224, eq237, ge224, le239, eq240, eq244, ge240, le244]
  clear t1 t2 t3 e0 e1 e2 e3 u0 u1 u2 u3 hs0 lt128 ge194 le223 eq224 eq237 ge224 le239 eq240 eq244 ge240 le244
  generalize s.size = n at *
  unfold Lib.decodeN
  (repeat' split) <;> first | rfl | (exfalso; omega) | (simp only [Option.some.injEq, Prod.mk.injEq]; refine ⟨?_, ?_⟩ <;> (try unfold wrap64) <;> omega)
set_option maxHeartbeats 8000000 in
set_option maxRecDepth 100000 in
theorem first_5 (k : Nat) (s : ByteArray) (hs : 0 < s.size) (hlo : 237 ≤ (s.get! 0).toNat) (hhi : (s.get! 0).toNat ≤ 237) : althingref04_first.f (k + 6) s = some (((Utf8.decode s 0).1 : Int), ((Utf8.decode s 0).2 : Int)) := by
  rw [Lib.decode_at]
  have e0 : bt s 0 = ((s.get! 0).toNat : Int) := bt_get s 0
  have e1 : bt s 1 = ((s.get! 1).toNat : Int) := bt_get s 1
  have e2 : bt s 2 = ((s.get! 2).toNat : Int) := bt_get s 2
  have e3 : bt s 3 = ((s.get! 3).toNat : Int) := bt_get s 3
  have r0 : (s.get! 0).toNat < 256 := UInt8.toNat_lt _
  have r1 : (s.get! 1).toNat < 256 := UInt8.toNat_lt _
  have r2 : (s.get! 2).toNat < 256 := UInt8.toNat_lt _
  have r3 : (s.get! 3).toNat < 256 := UInt8.toNat_lt _
  have t1 := tail1 s
  have t2 := tail2 s
  have t3 := tail3 s
  rw [Nat.sub_zero, Nat.zero_add, Nat.zero_add, Nat.zero_add]
  generalize (s.get! 0).toNat = b0 at *
  generalize (s.get! 1).toNat = b1 at *
  generalize (s.get! 2).toNat = b2 at *
  generalize (s.get! 3).toNat = b3 at *
  have u0 : wrap64 (b0 : Int) = b0 := wrapb _ r0
  have u1 : wrap64 (b1 : Int) = b1 := wrapb _ r1
  have u2 : wrap64 (b2 : Int) = b2 := wrapb _ r2
  have u3 : wrap64 (b3 : Int) = b3 := wrapb _ r3
  have hs0 : (0 < (s.size : Int)) = True := eq_true (by omega)
  have lt128 : ((b0 : Int) < 128) = False := eq_false (by omega)
  have ge194 : ((b0 : Int) ≥ 194) = True := eq_true (by omega)
  have le223 : ((b0 : Int) ≤ 223) = False := eq_false (by omega)
  have eq224 : ((b0 : Int) = 224) = False := eq_false (by omega)
  have eq237 : ((b0 : Int) = 237) = True := eq_true (by omega)
  have ge224 : ((b0 : Int) ≥ 224) = True := eq_true (by omega)
  have le239 : ((b0 : Int) ≤ 239) = True := eq_true (by omega)
  have eq240 : ((b0 : Int) = 240) = False := eq_false (by omega)
  have eq244 : ((b0 : Int) = 244) = False := eq_false (by omega)
  have ge240 : ((b0 : Int) ≥ 240) = False := eq_false (by omega)
  have le244 : ((b0 : Int) ≤ 244) = True := eq_true (by omega)
  simp only [althingref04_first.f, althingref04_first.j0, althingref04_first.j1, althingref04_first.j2, althingref04_first.j3, althingref04_first.j4, althingref04_first.j5, t1, t2, t3, Option.bind_some, e0, e1, e2, e3, u0, u1, u2, u3, hs0, decide_eq_true_eq, ↓reduceIte, Bool.false_eq_true, lt128, ge194, le223, eq224, eq237, ge224, le239, eq240, eq244, ge240, le244]
  clear t1 t2 t3 e0 e1 e2 e3 u0 u1 u2 u3 hs0 lt128 ge194 le223 eq224 eq237 ge224 le239 eq240 eq244 ge240 le244
  generalize s.size = n at *
  unfold Lib.decodeN
  (repeat' split) <;> first | rfl | (exfalso; omega) | (simp only [Option.some.injEq, Prod.mk.injEq]; refine ⟨?_, ?_⟩ <;> (try unfold wrap64) <;> omega)
set_option maxHeartbeats 8000000 in
set_option maxRecDepth 100000 in
theorem first_6 (k : Nat) (s : ByteArray) (hs : 0 < s.size) (hlo : 238 ≤ (s.get! 0).toNat) (hhi : (s.get! 0).toNat ≤ 239) : althingref04_first.f (k + 6) s = some (((Utf8.decode s 0).1 : Int), ((Utf8.decode s 0).2 : Int)) := by
  rw [Lib.decode_at]
  have e0 : bt s 0 = ((s.get! 0).toNat : Int) := bt_get s 0
  have e1 : bt s 1 = ((s.get! 1).toNat : Int) := bt_get s 1
  have e2 : bt s 2 = ((s.get! 2).toNat : Int) := bt_get s 2
  have e3 : bt s 3 = ((s.get! 3).toNat : Int) := bt_get s 3
  have r0 : (s.get! 0).toNat < 256 := UInt8.toNat_lt _
  have r1 : (s.get! 1).toNat < 256 := UInt8.toNat_lt _
  have r2 : (s.get! 2).toNat < 256 := UInt8.toNat_lt _
  have r3 : (s.get! 3).toNat < 256 := UInt8.toNat_lt _
  have t1 := tail1 s
  have t2 := tail2 s
  have t3 := tail3 s
  rw [Nat.sub_zero, Nat.zero_add, Nat.zero_add, Nat.zero_add]
  generalize (s.get! 0).toNat = b0 at *
  generalize (s.get! 1).toNat = b1 at *
  generalize (s.get! 2).toNat = b2 at *
  generalize (s.get! 3).toNat = b3 at *
  have u0 : wrap64 (b0 : Int) = b0 := wrapb _ r0
  have u1 : wrap64 (b1 : Int) = b1 := wrapb _ r1
  have u2 : wrap64 (b2 : Int) = b2 := wrapb _ r2
  have u3 : wrap64 (b3 : Int) = b3 := wrapb _ r3
  have hs0 : (0 < (s.size : Int)) = True := eq_true (by omega)
  have lt128 : ((b0 : Int) < 128) = False := eq_false (by omega)
  have ge194 : ((b0 : Int) ≥ 194) = True := eq_true (by omega)
  have le223 : ((b0 : Int) ≤ 223) = False := eq_false (by omega)
  have eq224 : ((b0 : Int) = 224) = False := eq_false (by omega)
  have eq237 : ((b0 : Int) = 237) = False := eq_false (by omega)
  have ge224 : ((b0 : Int) ≥ 224) = True := eq_true (by omega)
  have le239 : ((b0 : Int) ≤ 239) = True := eq_true (by omega)
  have eq240 : ((b0 : Int) = 240) = False := eq_false (by omega)
  have eq244 : ((b0 : Int) = 244) = False := eq_false (by omega)
  have ge240 : ((b0 : Int) ≥ 240) = False := eq_false (by omega)
  have le244 : ((b0 : Int) ≤ 244) = True := eq_true (by omega)
  simp only [althingref04_first.f, althingref04_first.j0, althingref04_first.j1, althingref04_first.j2, althingref04_first.j3, althingref04_first.j4, althingref04_first.j5, t1, t2, t3, Option.bind_some, e0, e1, e2, e3, u0, u1, u2, u3, hs0, decide_eq_true_eq, ↓reduceIte, Bool.false_eq_true, lt128, ge194, le223, eq224, eq237, ge224, le239, eq240, eq244, ge240, le244]
  clear t1 t2 t3 e0 e1 e2 e3 u0 u1 u2 u3 hs0 lt128 ge194 le223 eq224 eq237 ge224 le239 eq240 eq244 ge240 le244
  generalize s.size = n at *
  unfold Lib.decodeN
  (repeat' split) <;> first | rfl | (exfalso; omega) | (simp only [Option.some.injEq, Prod.mk.injEq]; refine ⟨?_, ?_⟩ <;> (try unfold wrap64) <;> omega)
set_option maxHeartbeats 8000000 in
set_option maxRecDepth 100000 in
theorem first_7 (k : Nat) (s : ByteArray) (hs : 0 < s.size) (hlo : 240 ≤ (s.get! 0).toNat) (hhi : (s.get! 0).toNat ≤ 240) : althingref04_first.f (k + 6) s = some (((Utf8.decode s 0).1 : Int), ((Utf8.decode s 0).2 : Int)) := by
  rw [Lib.decode_at]
  have e0 : bt s 0 = ((s.get! 0).toNat : Int) := bt_get s 0
  have e1 : bt s 1 = ((s.get! 1).toNat : Int) := bt_get s 1
  have e2 : bt s 2 = ((s.get! 2).toNat : Int) := bt_get s 2
  have e3 : bt s 3 = ((s.get! 3).toNat : Int) := bt_get s 3
  have r0 : (s.get! 0).toNat < 256 := UInt8.toNat_lt _
  have r1 : (s.get! 1).toNat < 256 := UInt8.toNat_lt _
  have r2 : (s.get! 2).toNat < 256 := UInt8.toNat_lt _
  have r3 : (s.get! 3).toNat < 256 := UInt8.toNat_lt _
  have t1 := tail1 s
  have t2 := tail2 s
  have t3 := tail3 s
  rw [Nat.sub_zero, Nat.zero_add, Nat.zero_add, Nat.zero_add]
  generalize (s.get! 0).toNat = b0 at *
  generalize (s.get! 1).toNat = b1 at *
  generalize (s.get! 2).toNat = b2 at *
  generalize (s.get! 3).toNat = b3 at *
  have u0 : wrap64 (b0 : Int) = b0 := wrapb _ r0
  have u1 : wrap64 (b1 : Int) = b1 := wrapb _ r1
  have u2 : wrap64 (b2 : Int) = b2 := wrapb _ r2
  have u3 : wrap64 (b3 : Int) = b3 := wrapb _ r3
  have hs0 : (0 < (s.size : Int)) = True := eq_true (by omega)
  have lt128 : ((b0 : Int) < 128) = False := eq_false (by omega)
  have ge194 : ((b0 : Int) ≥ 194) = True := eq_true (by omega)
  have le223 : ((b0 : Int) ≤ 223) = False := eq_false (by omega)
  have eq224 : ((b0 : Int) = 224) = False := eq_false (by omega)
  have eq237 : ((b0 : Int) = 237) = False := eq_false (by omega)
  have ge224 : ((b0 : Int) ≥ 224) = True := eq_true (by omega)
  have le239 : ((b0 : Int) ≤ 239) = False := eq_false (by omega)
  have eq240 : ((b0 : Int) = 240) = True := eq_true (by omega)
  have eq244 : ((b0 : Int) = 244) = False := eq_false (by omega)
  have ge240 : ((b0 : Int) ≥ 240) = True := eq_true (by omega)
  have le244 : ((b0 : Int) ≤ 244) = True := eq_true (by omega)
  simp only [althingref04_first.f, althingref04_first.j0, althingref04_first.j1, althingref04_first.j2, althingref04_first.j3, althingref04_first.j4, althingref04_first.j5, t1, t2, t3, Option.bind_some, e0, e1, e2, e3, u0, u1, u2, u3, hs0, decide_eq_true_eq, ↓reduceIte, Bool.false_eq_true, lt128, ge194, le223, eq224, eq237, ge224, le239, eq240, eq244, ge240, le244]
  clear t1 t2 t3 e0 e1 e2 e3 u0 u1 u2 u3 hs0 lt128 ge194 le223 eq224 eq237 ge224 le239 eq240 eq244 ge240 le244
  generalize s.size = n at *
  unfold Lib.decodeN
  (repeat' split) <;> first | rfl | (exfalso; omega) | (simp only [Option.some.injEq, Prod.mk.injEq]; refine ⟨?_, ?_⟩ <;> (try unfold wrap64) <;> omega)
set_option maxHeartbeats 8000000 in
set_option maxRecDepth 100000 in
theorem first_8 (k : Nat) (s : ByteArray) (hs : 0 < s.size) (hlo : 241 ≤ (s.get! 0).toNat) (hhi : (s.get! 0).toNat ≤ 243) : althingref04_first.f (k + 6) s = some (((Utf8.decode s 0).1 : Int), ((Utf8.decode s 0).2 : Int)) := by
  rw [Lib.decode_at]
  have e0 : bt s 0 = ((s.get! 0).toNat : Int) := bt_get s 0
  have e1 : bt s 1 = ((s.get! 1).toNat : Int) := bt_get s 1
  have e2 : bt s 2 = ((s.get! 2).toNat : Int) := bt_get s 2
  have e3 : bt s 3 = ((s.get! 3).toNat : Int) := bt_get s 3
  have r0 : (s.get! 0).toNat < 256 := UInt8.toNat_lt _
  have r1 : (s.get! 1).toNat < 256 := UInt8.toNat_lt _
  have r2 : (s.get! 2).toNat < 256 := UInt8.toNat_lt _
  have r3 : (s.get! 3).toNat < 256 := UInt8.toNat_lt _
  have t1 := tail1 s
  have t2 := tail2 s
  have t3 := tail3 s
  rw [Nat.sub_zero, Nat.zero_add, Nat.zero_add, Nat.zero_add]
  generalize (s.get! 0).toNat = b0 at *
  generalize (s.get! 1).toNat = b1 at *
  generalize (s.get! 2).toNat = b2 at *
  generalize (s.get! 3).toNat = b3 at *
  have u0 : wrap64 (b0 : Int) = b0 := wrapb _ r0
  have u1 : wrap64 (b1 : Int) = b1 := wrapb _ r1
  have u2 : wrap64 (b2 : Int) = b2 := wrapb _ r2
  have u3 : wrap64 (b3 : Int) = b3 := wrapb _ r3
  have hs0 : (0 < (s.size : Int)) = True := eq_true (by omega)
  have lt128 : ((b0 : Int) < 128) = False := eq_false (by omega)
  have ge194 : ((b0 : Int) ≥ 194) = True := eq_true (by omega)
  have le223 : ((b0 : Int) ≤ 223) = False := eq_false (by omega)
  have eq224 : ((b0 : Int) = 224) = False := eq_false (by omega)
  have eq237 : ((b0 : Int) = 237) = False := eq_false (by omega)
  have ge224 : ((b0 : Int) ≥ 224) = True := eq_true (by omega)
  have le239 : ((b0 : Int) ≤ 239) = False := eq_false (by omega)
  have eq240 : ((b0 : Int) = 240) = False := eq_false (by omega)
  have eq244 : ((b0 : Int) = 244) = False := eq_false (by omega)
  have ge240 : ((b0 : Int) ≥ 240) = True := eq_true (by omega)
  have le244 : ((b0 : Int) ≤ 244) = True := eq_true (by omega)
  simp only [althingref04_first.f, althingref04_first.j0, althingref04_first.j1, althingref04_first.j2, althingref04_first.j3, althingref04_first.j4, althingref04_first.j5, t1, t2, t3, Option.bind_some, e0, e1, e2, e3, u0, u1, u2, u3, hs0, decide_eq_true_eq, ↓reduceIte, Bool.false_eq_true, lt128, ge194, le223, eq224, eq237, ge224, le239, eq240, eq244, ge240, le244]
  clear t1 t2 t3 e0 e1 e2 e3 u0 u1 u2 u3 hs0 lt128 ge194 le223 eq224 eq237 ge224 le239 eq240 eq244 ge240 le244
  generalize s.size = n at *
  unfold Lib.decodeN
  (repeat' split) <;> first | rfl | (exfalso; omega) | (simp only [Option.some.injEq, Prod.mk.injEq]; refine ⟨?_, ?_⟩ <;> (try unfold wrap64) <;> omega)
set_option maxHeartbeats 8000000 in
set_option maxRecDepth 100000 in
theorem first_9 (k : Nat) (s : ByteArray) (hs : 0 < s.size) (hlo : 244 ≤ (s.get! 0).toNat) (hhi : (s.get! 0).toNat ≤ 244) : althingref04_first.f (k + 6) s = some (((Utf8.decode s 0).1 : Int), ((Utf8.decode s 0).2 : Int)) := by
  rw [Lib.decode_at]
  have e0 : bt s 0 = ((s.get! 0).toNat : Int) := bt_get s 0
  have e1 : bt s 1 = ((s.get! 1).toNat : Int) := bt_get s 1
  have e2 : bt s 2 = ((s.get! 2).toNat : Int) := bt_get s 2
  have e3 : bt s 3 = ((s.get! 3).toNat : Int) := bt_get s 3
  have r0 : (s.get! 0).toNat < 256 := UInt8.toNat_lt _
  have r1 : (s.get! 1).toNat < 256 := UInt8.toNat_lt _
  have r2 : (s.get! 2).toNat < 256 := UInt8.toNat_lt _
  have r3 : (s.get! 3).toNat < 256 := UInt8.toNat_lt _
  have t1 := tail1 s
  have t2 := tail2 s
  have t3 := tail3 s
  rw [Nat.sub_zero, Nat.zero_add, Nat.zero_add, Nat.zero_add]
  generalize (s.get! 0).toNat = b0 at *
  generalize (s.get! 1).toNat = b1 at *
  generalize (s.get! 2).toNat = b2 at *
  generalize (s.get! 3).toNat = b3 at *
  have u0 : wrap64 (b0 : Int) = b0 := wrapb _ r0
  have u1 : wrap64 (b1 : Int) = b1 := wrapb _ r1
  have u2 : wrap64 (b2 : Int) = b2 := wrapb _ r2
  have u3 : wrap64 (b3 : Int) = b3 := wrapb _ r3
  have hs0 : (0 < (s.size : Int)) = True := eq_true (by omega)
  have lt128 : ((b0 : Int) < 128) = False := eq_false (by omega)
  have ge194 : ((b0 : Int) ≥ 194) = True := eq_true (by omega)
  have le223 : ((b0 : Int) ≤ 223) = False := eq_false (by omega)
  have eq224 : ((b0 : Int) = 224) = False := eq_false (by omega)
  have eq237 : ((b0 : Int) = 237) = False := eq_false (by omega)
  have ge224 : ((b0 : Int) ≥ 224) = True := eq_true (by omega)
  have le239 : ((b0 : Int) ≤ 239) = False := eq_false (by omega)
  have eq240 : ((b0 : Int) = 240) = False := eq_false (by omega)
  have eq244 : ((b0 : Int) = 244) = True := eq_true (by omega)
  have ge240 : ((b0 : Int) ≥ 240) = True := eq_true (by omega)
  have le244 : ((b0 : Int) ≤ 244) = True := eq_true (by omega)
  simp only [althingref04_first.f, althingref04_first.j0, althingref04_first.j1, althingref04_first.j2, althingref04_first.j3, althingref04_first.j4, althingref04_first.j5, t1, t2, t3, Option.bind_some, e0, e1, e2, e3, u0, u1, u2, u3, hs0, decide_eq_true_eq, ↓reduceIte, Bool.false_eq_true, lt128, ge194, le223, eq224, eq237, ge224, le239, eq240, eq244, ge240, le244]
  clear t1 t2 t3 e0 e1 e2 e3 u0 u1 u2 u3 hs0 lt128 ge194 le223 eq224 eq237 ge224 le239 eq240 eq244 ge240 le244
  generalize s.size = n at *
  unfold Lib.decodeN
  (repeat' split) <;> first | rfl | (exfalso; omega) | (simp only [Option.some.injEq, Prod.mk.injEq]; refine ⟨?_, ?_⟩ <;> (try unfold wrap64) <;> omega)
set_option maxHeartbeats 8000000 in
set_option maxRecDepth 100000 in
theorem first_10 (k : Nat) (s : ByteArray) (hs : 0 < s.size) (hlo : 245 ≤ (s.get! 0).toNat) (hhi : (s.get! 0).toNat ≤ 255) : althingref04_first.f (k + 6) s = some (((Utf8.decode s 0).1 : Int), ((Utf8.decode s 0).2 : Int)) := by
  rw [Lib.decode_at]
  have e0 : bt s 0 = ((s.get! 0).toNat : Int) := bt_get s 0
  have e1 : bt s 1 = ((s.get! 1).toNat : Int) := bt_get s 1
  have e2 : bt s 2 = ((s.get! 2).toNat : Int) := bt_get s 2
  have e3 : bt s 3 = ((s.get! 3).toNat : Int) := bt_get s 3
  have r0 : (s.get! 0).toNat < 256 := UInt8.toNat_lt _
  have r1 : (s.get! 1).toNat < 256 := UInt8.toNat_lt _
  have r2 : (s.get! 2).toNat < 256 := UInt8.toNat_lt _
  have r3 : (s.get! 3).toNat < 256 := UInt8.toNat_lt _
  have t1 := tail1 s
  have t2 := tail2 s
  have t3 := tail3 s
  rw [Nat.sub_zero, Nat.zero_add, Nat.zero_add, Nat.zero_add]
  generalize (s.get! 0).toNat = b0 at *
  generalize (s.get! 1).toNat = b1 at *
  generalize (s.get! 2).toNat = b2 at *
  generalize (s.get! 3).toNat = b3 at *
  have u0 : wrap64 (b0 : Int) = b0 := wrapb _ r0
  have u1 : wrap64 (b1 : Int) = b1 := wrapb _ r1
  have u2 : wrap64 (b2 : Int) = b2 := wrapb _ r2
  have u3 : wrap64 (b3 : Int) = b3 := wrapb _ r3
  have hs0 : (0 < (s.size : Int)) = True := eq_true (by omega)
  have lt128 : ((b0 : Int) < 128) = False := eq_false (by omega)
  have ge194 : ((b0 : Int) ≥ 194) = True := eq_true (by omega)
  have le223 : ((b0 : Int) ≤ 223) = False := eq_false (by omega)
  have eq224 : ((b0 : Int) = 224) = False := eq_false (by omega)
  have eq237 : ((b0 : Int) = 237) = False := eq_false (by omega)
  have ge224 : ((b0 : Int) ≥ 224) = True := eq_true (by omega)
  have le239 : ((b0 : Int) ≤ 239) = False := eq_false (by omega)
  have eq240 : ((b0 : Int) = 240) = False := eq_false (by omega)
  have eq244 : ((b0 : Int) = 244) = False := eq_false (by omega)
  have ge240 : ((b0 : Int) ≥ 240) = True := eq_true (by omega)
  have le244 : ((b0 : Int) ≤ 244) = False := eq_false (by omega)
  simp only [althingref04_first.f, althingref04_first.j0, althingref04_first.j1, althingref04_first.j2, althingref04_first.j3, althingref04_first.j4, althingref04_first.j5, t1, t2, t3, Option.bind_some, e0, e1, e2, e3, u0, u1, u2, u3, hs0, decide_eq_true_eq, ↓reduceIte, Bool.false_eq_true, lt128, ge194, le223, eq224, eq237, ge224, le239, eq240, eq244, ge240, le244]
  clear t1 t2 t3 e0 e1 e2 e3 u0 u1 u2 u3 hs0 lt128 ge194 le223 eq224 eq237 ge224 le239 eq240 eq244 ge240 le244
  generalize s.size = n at *
  unfold Lib.decodeN
  (repeat' split) <;> first | rfl | (exfalso; omega) | (simp only [Option.some.injEq, Prod.mk.injEq]; refine ⟨?_, ?_⟩ <;> (try unfold wrap64) <;> omega)
theorem first_is (k : Nat) (s : ByteArray) (hs : 0 < s.size) : althingref04_first.f (k + 6) s = some (((Utf8.decode s 0).1 : Int), ((Utf8.decode s 0).2 : Int)) := by
  have r0 : (s.get! 0).toNat < 256 := UInt8.toNat_lt _
  by_cases h0 : (s.get! 0).toNat ≤ 127
  · exact first_0 k s hs (by omega) h0
  by_cases h1 : (s.get! 0).toNat ≤ 193
  · exact first_1 k s hs (by omega) h1
  by_cases h2 : (s.get! 0).toNat ≤ 223
  · exact first_2 k s hs (by omega) h2
  by_cases h3 : (s.get! 0).toNat ≤ 224
  · exact first_3 k s hs (by omega) h3
  by_cases h4 : (s.get! 0).toNat ≤ 236
  · exact first_4 k s hs (by omega) h4
  by_cases h5 : (s.get! 0).toNat ≤ 237
  · exact first_5 k s hs (by omega) h5
  by_cases h6 : (s.get! 0).toNat ≤ 239
  · exact first_6 k s hs (by omega) h6
  by_cases h7 : (s.get! 0).toNat ≤ 240
  · exact first_7 k s hs (by omega) h7
  by_cases h8 : (s.get! 0).toNat ≤ 243
  · exact first_8 k s hs (by omega) h8
  by_cases h9 : (s.get! 0).toNat ≤ 244
  · exact first_9 k s hs (by omega) h9
  exact first_10 k s hs (by omega) (by omega)
-- END first_is
theorem width_le (s : ByteArray) (pos : Nat) (h : pos < s.size) : pos + (Utf8.decode s pos).2 ≤ s.size := by
  rw [Lib.decode_at]
  have : (Lib.decodeN (s.size - pos) (s.get! pos).toNat (s.get! (pos + 1)).toNat (s.get! (pos + 2)).toNat (s.get! (pos + 3)).toNat).2 ≤ s.size - pos := by
    generalize (s.get! pos).toNat = b0
    generalize (s.get! (pos + 1)).toNat = b1
    generalize (s.get! (pos + 2)).toNat = b2
    generalize (s.get! (pos + 3)).toNat = b3
    unfold Lib.decodeN
    (repeat' split) <;> simp only <;> omega
  omega
/-- The runes from place pos on, b of them at most. -/
def rns (s : ByteArray) : Nat → Nat → List Int
  | 0, _ => []
  | b + 1, pos => if pos < s.size then ((Utf8.decode s pos).1 : Int) :: rns s b (pos + (Utf8.decode s pos).2) else []
def runes (s : ByteArray) : List Int := rns s s.size 0
theorem rns_end (s : ByteArray) (b pos : Nat) (h : ¬ pos < s.size) : rns s b pos = [] := by cases b <;> simp [rns, h]
theorem rns_len (s : ByteArray) : ∀ b pos, (rns s b pos).length ≤ s.size - pos
  | 0, _ => by simp [rns]
  | b + 1, pos => by
    unfold rns
    split
    · have := rns_len s b (pos + (Utf8.decode s pos).2)
      have := Lib.width_pos s pos
      simp only [List.length_cons]; omega
    · simp
theorem rns_range (s : ByteArray) : ∀ b pos, ∀ x ∈ rns s b pos, 0 ≤ x ∧ x ≤ 1114111
  | 0, _ => by simp [rns]
  | b + 1, pos => by
    unfold rns
    split
    · intro x hx
      rcases List.mem_cons.1 hx with rfl | hx
      · have := Lib.rune_le s pos; omega
      · exact rns_range s b _ x hx
    · simp
theorem runes_len (s : ByteArray) : (runes s).length ≤ s.size := by have := rns_len s s.size 0; unfold runes; omega
theorem runes_at (s : ByteArray) (i : Nat) : 0 ≤ (runes s).getD i 0 ∧ (runes s).getD i 0 ≤ 1114111 := by
  by_cases h : i < (runes s).length
  · have e : (runes s).getD i 0 = (runes s)[i] := by simp [List.getD_eq_getElem?_getD, h]
    rw [e]
    exact rns_range s s.size 0 _ (List.getElem_mem h)
  · have e : (runes s).getD i 0 = 0 := by simp [List.getD_eq_getElem?_getD, Nat.le_of_not_lt h]
    rw [e]; omega
theorem ext_ext (s : ByteArray) (pos k : Nat) (h : pos + k ≤ s.size) : (s.extract pos s.size).extract k (s.extract pos s.size).size = s.extract (pos + k) s.size := by
  rw [Lib.tail_size]
  apply ByteArray.ext
  rw [ByteArray.data_extract, ByteArray.data_extract, ByteArray.data_extract, Array.extract_extract]
  congr 1
  omega
theorem refRunes_l0 (s : ByteArray) (hs : s.size ≤ 2000) : ∀ b pos acc k, s.size ≤ pos + b → pos ≤ s.size → acc.length ≤ pos → althingref04_Runes.l0 (k + b + 7) (s.extract pos s.size) acc = some (acc ++ rns s b pos)
  | 0, pos, acc, k, h1, h2, h3 => by
    unfold althingref04_Runes.l0
    rw [if_neg (by rw [Lib.tail_size]; omega), rns, List.append_nil]
  | b + 1, pos, acc, k, h1, h2, h3 => by
    by_cases h : pos < s.size
    · have hz : (s.extract pos s.size).size = s.size - pos := Lib.tail_size s pos
      have hd : Utf8.decode (s.extract pos s.size) 0 = Utf8.decode s pos := by rw [Lib.tail_decode, Nat.add_zero]
      have hw := width_le s pos h
      have hw1 := Lib.width_pos s pos
      have ih := refRunes_l0 s hs b (pos + (Utf8.decode s pos).2) (acc ++ [((Utf8.decode s pos).1 : Int)]) k (by omega) (by omega) (by simp only [List.length_append, List.length_singleton]; omega)
      have ef := first_is (k + b + 1) (s.extract pos s.size) (by omega)
      rw [hd] at ef
      have ee := ext_ext s pos (Utf8.decode s pos).2 hw
      rw [show k + (b + 1) + 7 = (k + b + 7) + 1 by omega]
      unfold althingref04_Runes.l0
      rw [show k + b + 7 = (k + b + 1) + 6 by omega, ef, Option.bind_some, if_pos (by omega), if_pos (by omega), if_pos (by omega), if_pos (by omega)]
      simp only []
      rw [Int.toNat_natCast, ee, show (k + b + 1) + 6 = k + b + 7 by omega, ih]
      conv => rhs; unfold rns
      rw [if_pos h]
      simp
    · rw [rns_end s _ _ h]
      unfold althingref04_Runes.l0
      rw [if_neg (by rw [Lib.tail_size]; omega), List.append_nil]
theorem refRunes_is (s : ByteArray) (hs : s.size ≤ 2000) (k : Nat) (hk : 2007 ≤ k) : althingref04_Runes.f k s = some (runes s) := by
  have h := refRunes_l0 s hs s.size 0 [] (k - s.size - 7) (by omega) (by omega) (by simp)
  rw [show k - s.size - 7 + s.size + 7 = k by omega, List.nil_append] at h
  have e : s.extract 0 s.size = s := by apply ByteArray.ext; simp
  rw [e] at h
  exact h
/-- The weight of a list's first k runes. -/
def wsum (l : List Int) : Nat → Int
  | 0 => 0
  | k + 1 => wsum l k + ((k : Int) + 1) * l.getD k 0
def weight (s : ByteArray) : Int := wsum (runes s) (runes s).length
theorem wterm (k : Nat) (c : Int) (hk : k < 2000) (hc : 0 ≤ c ∧ c ≤ 1114111) : 0 ≤ ((k : Int) + 1) * c ∧ ((k : Int) + 1) * c ≤ 2228222000 := by
  refine ⟨Int.mul_nonneg (by omega) hc.1, ?_⟩
  calc ((k : Int) + 1) * c ≤ 2000 * c := Int.mul_le_mul_of_nonneg_right (by omega) hc.1
    _ ≤ 2228222000 := by omega
theorem wsum_range (l : List Int) (hl : ∀ i, 0 ≤ l.getD i 0 ∧ l.getD i 0 ≤ 1114111) : ∀ k, k ≤ 2000 → 0 ≤ wsum l k ∧ wsum l k ≤ 2228222000 * (k : Int)
  | 0, _ => by simp [wsum]
  | k + 1, h => by
    have ih := wsum_range l hl k (by omega)
    have ht := wterm k (l.getD k 0) (by omega) (hl k)
    unfold wsum
    omega
theorem weight_range (s : ByteArray) (hs : s.size ≤ 2000) : 0 ≤ weight s ∧ weight s ≤ 4456444000000 := by
  have hl := runes_len s
  have := wsum_range (runes s) (runes_at s) (runes s).length (by omega)
  unfold weight
  omega
theorem refWeight_l1 (l : List Int) (R : Int) (i K : Nat) (hl : ∀ j, 0 ≤ l.getD j 0 ∧ l.getD j 0 ≤ 1114111) (hi : i < l.length) (hll : l.length ≤ 2000)
    (h : ∀ k, K ≤ k → althingref04_Weight.l0 k l (wsum l (i + 1)) ((i : Int) + 1) = some R) :
    ∀ d q, q + d = i + 1 → ∀ k, K + 1 + d ≤ k → althingref04_Weight.l1 k l (wsum l i + (q : Int) * l.getD i 0) (i : Int) (q : Int) = some R
  | 0, q, hq, k, hk => by
    obtain ⟨k, rfl⟩ : ∃ k', k = k' + 1 := ⟨k - 1, by omega⟩
    unfold althingref04_Weight.l1
    rw [if_neg (by omega)]
    have := h k (by omega)
    rw [show wrap64 ((i : Int) + 1) = (i : Int) + 1 by unfold wrap64; omega]
    have e : wsum l i + (q : Int) * l.getD i 0 = wsum l (i + 1) := by rw [wsum, show (q : Int) = (i : Int) + 1 by omega]
    rw [e]; exact this
  | d + 1, q, hq, k, hk => by
    obtain ⟨k, rfl⟩ : ∃ k', k = k' + 1 := ⟨k - 1, by omega⟩
    have ih := refWeight_l1 l R i K hl hi hll h d (q + 1) (by omega) k (by omega)
    unfold althingref04_Weight.l1
    rw [if_pos (by omega), if_pos (by omega), if_pos (by omega)]
    have hr := wsum_range l hl i (by omega)
    have hc := hl i
    have hq0 : 0 ≤ (q : Int) * l.getD i 0 ∧ (q : Int) * l.getD i 0 ≤ 2228222000 := by
      cases q with
      | zero => simp
      | succ q => have := wterm q (l.getD i 0) (by omega) hc; rw [show ((q + 1 : Nat) : Int) = (q : Int) + 1 by omega]; exact this
    have er : rd l (i : Int) = l.getD i 0 := by unfold rd; rw [Int.toNat_natCast]
    rw [er, show wrap64 ((q : Int) + 1) = ((q + 1 : Nat) : Int) by unfold wrap64; omega]
    have e : wrap64 (wsum l i + (q : Int) * l.getD i 0 + l.getD i 0) = wsum l i + ((q + 1 : Nat) : Int) * l.getD i 0 := by
      have e2 : ((q + 1 : Nat) : Int) * l.getD i 0 = (q : Int) * l.getD i 0 + l.getD i 0 := by rw [show ((q + 1 : Nat) : Int) = (q : Int) + 1 by omega, Int.add_mul, Int.one_mul]
      rw [e2]
      unfold wrap64; omega
    rw [e]; exact ih
theorem refWeight_l0 (l : List Int) (hl : ∀ j, 0 ≤ l.getD j 0 ∧ l.getD j 0 ≤ 1114111) (hll : l.length ≤ 2000) : ∀ d i, i + d = l.length → ∃ K, ∀ k, K ≤ k → althingref04_Weight.l0 k l (wsum l i) (i : Int) = some (wsum l l.length)
  | 0, i, h => ⟨1, fun k hk => by
      obtain ⟨k, rfl⟩ : ∃ k', k = k' + 1 := ⟨k - 1, by omega⟩
      unfold althingref04_Weight.l0
      rw [if_neg (by omega), show i = l.length by omega]⟩
  | d + 1, i, h => by
    obtain ⟨K, hK⟩ := refWeight_l0 l hl hll d (i + 1) (by omega)
    refine ⟨K + 1 + (i + 1) + 1, fun k hk => ?_⟩
    obtain ⟨k, rfl⟩ : ∃ k', k = k' + 1 := ⟨k - 1, by omega⟩
    have h1 := refWeight_l1 l (wsum l l.length) i K hl (by omega) hll (fun k hk => by have := hK k hk; rwa [show ((i + 1 : Nat) : Int) = (i : Int) + 1 by omega] at this) (i + 1) 0 (by omega) k (by omega)
    unfold althingref04_Weight.l0
    rw [if_pos (by omega)]
    simpa using h1
theorem refWeight_is (s : ByteArray) (hs : s.size ≤ 2000) : ∃ K, ∀ k, K ≤ k → althingref04_Weight.f k s = some (weight s) := by
  have hl := runes_len s
  obtain ⟨K, hK⟩ := refWeight_l0 (runes s) (runes_at s) (by omega) (runes s).length 0 (by omega)
  refine ⟨K + 2007, fun k hk => ?_⟩
  unfold althingref04_Weight.f
  rw [refRunes_is s hs k (by omega), Option.bind_some]
  exact hK k (by omega)
end Go.Proofs.Yticadmfpeepciaa.Keys
