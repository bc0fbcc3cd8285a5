/- keys.Meet: is a text of the one list in the other? -/
import Derived.Test.YtcoohapohkbnpaaYStrs
import Derived.Test.YtcoohapohkbnpaaShelf
import Derived.Test.YtcoohapohkbnpaaBase
namespace Go.Proofs.Ytcoohapohkbnpaa.Strs
open Go.RowKit Go.Proofs.YtcoohapohkbnpaaW.PrintWords Go.Proofs.YtcoohapohkbnpaaW.PrintLast Go.Proofs.YtcoohapohkbnpaaW.PrintMore Go.Proofs.Ytcoohapohkbnpaa.X
set_option linter.unusedSimpArgs false
set_option linter.unusedVariables false
theorem addr_plain {w : World} {ad : Addr} {v : Value} (h : w.cell? (ad.add 0) = some v) : ∃ b o, ad = ⟨b, o, none⟩ := by
  obtain ⟨b, o, s⟩ := ad
  cases s with
  | none => exact ⟨b, o, rfl⟩
  | some x =>
    exfalso
    unfold Addr.add at h
    rw [if_pos rfl] at h
    simp only [World.cell?] at h
    split at h <;> simp at h
theorem str_cells {w : World} {A : Option Addr} {l : List ByteArray} (h : Kd.C Kd.string w A l.length l) (hl : 0 < l.length) : ∃ b o, A = some ⟨b, o, none⟩ ∧ ∀ j, j < l.length → w.cell? ⟨b, o + j, none⟩ = some (.string (l.getD j ByteArray.empty)) := by
  obtain ⟨ad, rfl, hc⟩ := h.2.2 hl
  have hcell : ∀ j, j < l.length → w.cell? (ad.add j) = some (.string (l.getD j ByteArray.empty)) := by
    intro j hj
    obtain ⟨c, hcl, hk, hcc⟩ := hc j _ (List.getElem?_eq_getElem hj)
    have e : c = [.string (l.getD j ByteArray.empty)] := by
      have : c = [Value.string l[j]] := hk
      rw [this]; simp [List.getD_eq_getElem?_getD, hj]
    subst e
    have h3 := hcc 0 _ rfl
    rwa [show j * Kd.string.sz + 0 = j by simp [Kd.string, Kd.scalar]] at h3
  obtain ⟨b, o, rfl⟩ := addr_plain (hcell 0 hl)
  refine ⟨b, o, rfl, fun j hj => ?_⟩
  have h1 := hcell j hj
  have ha : (⟨b, o, none⟩ : Addr).add j = ⟨b, o + j, none⟩ := by unfold Addr.add; split <;> simp_all
  rwa [ha] at h1
theorem contains_inB (l : List ByteArray) (x : ByteArray) : Lib.containsS l x = inB l x := by
  rw [Bool.eq_iff_iff, Lib.containsS_iff, inB_iff]
set_option maxHeartbeats 1000000 in
theorem contains_any (A : Option Addr) (c : Nat) (l : List ByteArray) (x : ByteArray) (w : World) (hr : Kd.C Kd.string w A l.length l) :
    Calls Try.prog 24 #[.slice A l.length c, .string x] w fun e w' => e = .returned (.bool (inB l x)) ∧ w' = w := by
  by_cases hl : 0 < l.length
  · obtain ⟨b, o, rfl, hc⟩ := str_cells hr hl
    have h := Try.slices_Contains_string b o l.length c l x w (Nat.le_refl _) hr.2.1 hc
    rw [List.take_length, contains_inB] at h
    exact h
  · have h0 : l = [] := List.eq_nil_of_length_eq_zero (by omega)
    subst h0
    exact Try.slices_Contains_string_empty A c x w
set_option maxHeartbeats 1000000 in
theorem meet1_any (k : ByteArray) (g : Nat) (A : Option Addr) (c : Nat) (l : List ByteArray) (w : World) (hg : w.cell? ⟨g, 0, none⟩ = some (.slice A l.length c)) (hr : Kd.C Kd.string w A l.length l) (x : Bool) (hx : x = inB l k) :
    Calls Try.prog 23 #[.string k, .pointer (some ⟨g, 0, none⟩)] w fun e w' => e = .returned (.bool x) ∧ w = w' := by
  have HX := Lib.hid hx
  have HR := Lib.hid hr
  clear hx hr
  go_enter Try.func23, Try.ntmps23
  go_wp2_with (go_at_call 24; refine (contains_any _ _ _ _ _ HR.out).mono ?_; rintro e w' ⟨rfl, rfl⟩)
  go_ret
  exact ⟨by rw [HX.out]; rfl, rfl⟩
/-- Does one of the first list's stand in the second? -/
def meetB (l m : List ByteArray) : Bool := l.any (fun x => inB m x)
def AtOrNone (b : Bool) (w : World) (e : Ending) (w' : World) : Prop := ∃ n : Int, e = .returned (.int .i64 n) ∧ decide (0 ≤ n) = b ∧ -1 ≤ n ∧ n ≤ 9223372036854775807 ∧ w = w'
set_option maxRecDepth 100000 in
set_option maxHeartbeats 2000000 in
theorem indexFunc_any (A0 : Option Addr) (c0 : Nat) (l0 : List ByteArray) (g : Nat) (A : Option Addr) (c : Nat) (l : List ByteArray) (w : World) (hr0 : Kd.C Kd.string w A0 l0.length l0) (hg : w.cell? ⟨g, 0, none⟩ = some (.slice A l.length c)) (hr : Kd.C Kd.string w A l.length l) :
    Calls Try.prog 29 #[.slice A0 l0.length c0, .func (.func 23) #[] #[.pointer (some ⟨g, 0, none⟩)]] w (AtOrNone (meetB l0 l) w) := by
  have HR := Lib.hid hr
  have HR0 := Lib.hid hr0
  have hm := hr0.2.1
  have HG := Lib.hid hg
  clear hr hr0 hg
  go_enter Try.func29, Try.ntmps29
  go_wp2
  go_loopw [8] (fun i wr => ∃ j : Nat, j ≤ l0.length ∧ i = .int .i64 j ∧ Hid (meetB (l0.take j) l = false) ∧ Hid (w = wr)) (fun i _ => l0.length - (intOf i).toNat)
  case atStart => exact ⟨0, by omega, rfl, Lib.hid rfl, Lib.hid rfl⟩
  case round =>
    obtain ⟨j, hj, rfl, hS, hw⟩ := hrel
    obtain rfl := hw.out
    clear hw
    by_cases hlt : j < l0.length
    · obtain ⟨b, o, rfl, hc⟩ := str_cells HR0.out (by omega)
      have hcell := hc j hlt
      have hel : l0.getD j ByteArray.empty = l0[j] := by simp [List.getD_eq_getElem?_getD, hlt]
      have htake : l0.take (j + 1) = l0.take j ++ [l0.getD j ByteArray.empty] := by rw [hel, List.take_succ_eq_append_getElem hlt]
      have hmem : l0.getD j ByteArray.empty ∈ l0 := by rw [hel]; exact List.getElem_mem hlt
      have HT := Lib.hid htake
      have HM := Lib.hid hmem
      clear hc hel htake hmem
      generalize l0.getD j ByteArray.empty = x at hcell HT HM
      cases hb : inB l x with
      | true =>
        have HB := Lib.hid hb
        clear hb
        go_wp2_with (go_at_call 23; refine (meet1_any _ g A c l _ HG.out HR.out true (by rw [HB.out])).mono ?_; rintro e w' ⟨rfl, rfl⟩)
        go_ret
        exact ⟨j, rfl, by unfold meetB; rw [List.any_eq_true.2 ⟨x, HM.out, HB.out⟩]; simp, by omega, by omega, rfl⟩
      | false =>
        have HB := Lib.hid hb
        clear hb
        go_wp2_with (go_at_call 23; refine (meet1_any _ g A c l _ HG.out HR.out false (by rw [HB.out])).mono ?_; rintro e w' ⟨rfl, rfl⟩)
        go_roundw
        case rel => exact ⟨j + 1, by omega, by go_num, Lib.hid (by have h := hS.out; unfold meetB at h ⊢; rw [HT.out, List.any_append, h, List.any_cons, HB.out]; rfl), by first | exact Lib.hid rfl | exact Lib.hid trivial⟩
        case measure => simp [intOf]; omega
    · go_wp2
      go_ret
      obtain rfl : j = l0.length := by omega
      exact ⟨-1, rfl, by have h := hS.out; rw [List.take_length] at h; rw [h]; simp, by omega, by omega, rfl⟩
set_option maxHeartbeats 1000000 in
theorem containsFunc_any (A0 : Option Addr) (c0 : Nat) (l0 : List ByteArray) (g : Nat) (A : Option Addr) (c : Nat) (l : List ByteArray) (w : World) (hr0 : Kd.C Kd.string w A0 l0.length l0) (hg : w.cell? ⟨g, 0, none⟩ = some (.slice A l.length c)) (hr : Kd.C Kd.string w A l.length l) :
    Calls Try.prog 22 #[.slice A0 l0.length c0, .func (.func 23) #[] #[.pointer (some ⟨g, 0, none⟩)]] w fun e w' => e = .returned (.bool (meetB l0 l)) ∧ w = w' := by
  have HR := Lib.hid hr
  have HR0 := Lib.hid hr0
  have HG := Lib.hid hg
  clear hr hr0 hg
  go_enter Try.func22, Try.ntmps22
  go_wp2_with (go_at_call 29; refine (indexFunc_any A0 c0 l0 g A c l _ HR0.out HG.out HR.out).mono ?_; rintro e w' ⟨n, rfl, hn, hn1, hn2, rfl⟩; have HN := Lib.hid hn; clear hn)
  go_ret
  exact ⟨by rw [← HN.out]; rfl, rfl⟩
end Go.Proofs.Ytcoohapohkbnpaa.Strs
namespace Go.Proofs.Ytcoohapohkbnpaa.X
open Go.RowKit Go.Proofs.Ytcoohapohkbnpaa.Strs Go.Proofs.YtcoohapohkbnpaaW.PrintWords Go.Proofs.YtcoohapohkbnpaaW.PrintLast Go.Proofs.YtcoohapohkbnpaaW.PrintMore
set_option linter.unusedVariables false
def keys_Meet.f (l0 : List ByteArray) (l1 : List ByteArray) : Option Bool := some (meetB l0 l1)
set_option maxHeartbeats 1000000 in
theorem keys_Meet.calls (A0 : Option Addr) (c0 : Nat) (l0 : List ByteArray) (A1 : Option Addr) (c1 : Nat) (l1 : List ByteArray) (r : Bool) (w : World) (hr0 : Kd.C Kd.string w A0 l0.length l0) (hc0 : l0.length ≤ c0) (hr1 : Kd.C Kd.string w A1 l1.length l1) (hc1 : l1.length ≤ c1) (h : keys_Meet.f l0 l1 = some r) :
    Calls Try.prog 12 #[.slice A0 l0.length c0, .slice A1 l1.length c1] w fun e w' => e = .returned (.bool r) ∧ Below w.heap.size w w' := by
  have HX := Lib.hid (Option.some.inj h)
  have hb0 := below_alloc (Below.refl w.heap.size w) (.cells #[.slice A1 l1.length c1] 22)
  have HR0 := Lib.hid (Kd.C_below hr0 hb0)
  have HR1 := Lib.hid (Kd.C_below hr1 hb0)
  clear h hr0 hr1 hc0 hc1
  go_enter Try.func12, Try.ntmps12
  go_wp2_with (go_at_call 22; refine (containsFunc_any A0 c0 l0 w.heap.size A1 c1 l1 _ HR0.out ?_ HR1.out).mono ?_; (exact World.cell?_alloc_at _ _ _ _ rfl); rintro e w' ⟨rfl, rfl⟩)
  go_ret
  exact ⟨by rw [HX.out]; rfl, hb0⟩
end Go.Proofs.Ytcoohapohkbnpaa.X
