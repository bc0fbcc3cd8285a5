/- The walks of package keys' functions of one key: runes, weight, shard. -/
import Derived.Test.YtcoohapohkbnpaaKeysA
import Derived.Test.YtcoohapohkbnpaaX0
import Derived.Test.YtcoohapohkbnpaaWMore
import Derived.Test.YtcoohapohkbnpaaXFkeysRight
import Derived.Test.YtcoohapohkbnpaaAppend
namespace Go.Proofs.Ytcoohapohkbnpaa.Keys
open Go.RowKit Go.Proofs.YtcoohapohkbnpaaW.PrintWords Go.Proofs.YtcoohapohkbnpaaW.PrintLast Go.Proofs.YtcoohapohkbnpaaW.PrintMore Go.Proofs.Ytcoohapohkbnpaa.X
set_option linter.unusedSimpArgs false
set_option linter.unusedVariables false
theorem own_iter {w : World} {B e size n : Nat} {v : Value} {xs : List Value} {k : Nat} {s : ByteArray} {pos : Nat} (h : w.ownsRow B e size v n xs) (hk : w.heap[k]? = some (.stringIter s pos)) (pos' : Nat) : (w.iterAt k s pos').ownsRow B e size v n xs := by
  refine ⟨h.1, ?_⟩
  rcases h.2 with h0 | ⟨g, cap, cur, hv, hb, hg, rest⟩
  · exact .inl h0
  · refine .inr ⟨g, cap, cur, hv, hb, ?_, rest⟩
    rw [Lib.iterAt_other _ _ _ _ _ (fun e => by subst e; rw [hk] at hg; cases hg)]
    exact hg
theorem own_low {w : World} {B B' e size n : Nat} {v : Value} {xs : List Value} (h : w.ownsRow B e size v n xs) (hB : B' ≤ B) : w.ownsRow B' e size v n xs := by
  refine ⟨h.1, ?_⟩
  rcases h.2 with h0 | ⟨g, cap, cur, hv, hb, rest⟩
  · exact .inl h0
  · exact .inr ⟨g, cap, cur, hv, by omega, rest⟩
theorem own_cellsI {w : World} {base : Nat} {e : TypeId} {v : Value} {xs : List Int} (k : IntKind) (h : w.ownsRow base e 1 v xs.length (xs.map (Value.int k))) :
    ∃ A c, v = .slice A xs.length c ∧ ∀ j, j < xs.length → ∃ ad : Addr, A = some ad ∧ w.cell? (ad.add j) = some (.int k (xs.getD j 0)) ∧ ad.block < w.heap.size ∧ (ad.add j).block = ad.block := by
  rcases h.2 with ⟨rfl, h0⟩ | ⟨g, cap, cur, rfl, hg, hh, hn, _, hc, ht⟩
  · exact ⟨none, 0, by rw [h0], fun j hj => by omega⟩
  · refine ⟨_, cap, rfl, fun j hj => ⟨_, rfl, ?_⟩⟩
    have hj2 : j < cur.toList.length := by rw [Array.length_toList]; omega
    have e1 : (cur.toList.take (xs.length * 1))[j]? = (xs.map (Value.int k))[j]? := by rw [ht]
    rw [List.getElem?_take, if_pos (by omega), List.getElem?_map] at e1
    have e2 : xs[j]? = some (xs.getD j 0) := by simp [List.getD_eq_getElem?_getD, hj]
    rw [e2] at e1
    have h3 : w.cell? ⟨g, j, none⟩ = some (.int k (xs.getD j 0)) := by simp [World.cell?, hh]; simpa using e1
    have ha : (⟨g, 0, none⟩ : Addr).add j = ⟨g, j, none⟩ := by unfold Addr.add; split <;> simp_all
    rw [ha]
    exact ⟨h3, World.block_lt_of_cell? w ⟨g, j, none⟩ h3, rfl⟩
set_option maxRecDepth 1000000 in
set_option maxHeartbeats 4000000 in
theorem runes_any (s : ByteArray) (hs : s.size ≤ 2000) (w : World) :
    Calls Try.prog 26 #[.string s] w fun e w' => ∃ v, e = .returned v ∧ w'.ownsRow w.heap.size 21 1 v (runes s).length ((runes s).map (Value.int .i32)) ∧ Below w.heap.size w w' := by
  have hi : (Try.prog.info? 21).map (fun i => (i.zero, i.size, i.bytes)) = some (some (.int .i32 0), 1, 4) := by kernel_rfl
  have HI := Lib.hid hi
  clear hi
  go_enter Try.func26, Try.ntmps26
  go_wp2
  go_loopw [3] (fun v wr => ∃ (pos b : Nat) (acc : List Int), wr.heap[w.heap.size]? = some (.stringIter s pos) ∧ pos ≤ s.size ∧ acc.length ≤ pos ∧ s.size ≤ pos + b ∧ Hid (acc ++ rns s b pos = runes s) ∧ Hid (wr.ownsRow (w.heap.size + 1) 21 1 v acc.length (acc.map (Value.int .i32))) ∧ Hid (Below w.heap.size w wr)) (fun _ wr => s.size - wr.iterPos w.heap.size)
  case atStart => exact ⟨0, s.size, [], World.iter_heap w s 0, by omega, by simp, by omega, Lib.hid rfl, Lib.hid (own_none _ _ _ _), Lib.hid ((Below.refl _ w).alloc (Nat.le_refl _) _)⟩
  case round =>
    obtain ⟨pos, b, acc, hit, hpos, hacc, hfu, HL, HO, HB⟩ := hrel
    by_cases hps : pos < s.size
    · obtain ⟨b, rfl⟩ : ∃ b', b = b' + 1 := ⟨b - 1, by omega⟩
      have hnx : ∀ ty, (Instr.next (.pointer (some ⟨w.heap.size, 0, none⟩)) true ty).run Try.prog wr = _ := fun ty => Lib.run_next_any_at wr w.heap.size s pos ty hit hps
      have hwd := Lib.width_pos s pos
      have hwl := width_le s pos hps
      have hL2 := HL.out
      rw [rns, if_pos hps] at hL2
      obtain ⟨R, hR⟩ : ∃ R, (Utf8.decode s pos).1 = R := ⟨_, rfl⟩
      obtain ⟨K, hK⟩ : ∃ K, (Utf8.decode s pos).2 = K := ⟨_, rfl⟩
      rw [hR, hK] at hnx hL2
      rw [hK] at hwd hwl
      have HL3 := Lib.hid hL2
      have hit2 := Lib.iterAt_heap wr w.heap.size s pos (pos + K) hit
      have hbw2 := Lib.below_iterAt HB.out (k := w.heap.size) (Nat.le_refl _) s (pos + K)
      have hown2 := own_iter HO.out hit (pos + K)
      have hip : wr.iterPos w.heap.size = pos := by simp [World.iterPos, hit]
      clear hL2 hR hK HL HO HB hit
      obtain ⟨W, hWd⟩ : ∃ W, wr.iterAt w.heap.size s (pos + K) = W := ⟨_, rfl⟩
      rw [hWd] at hnx hit2 hbw2 hown2
      have HB2 := Lib.hid hbw2
      have HO2 := Lib.hid hown2
      have hsz2 : w.heap.size + 1 ≤ W.heap.size := (Array.getElem?_eq_some_iff.1 hit2).1
      clear hbw2 hown2
      go_wp2_with (at_builtin; refine append_one (w0 := W) (w.heap.size + 1) rfl (.tmp 11) (.tmp 13) 42 21 (.int .i32 0) 1 4 rfl Try.underlying42 HI.out rfl (by decide) (by decide) _ _ _ [.int .i32 (R : Int)] rfl rfl rfl (by simp [Value.oneCell']) HO2.out (Below.refl _ _) hsz2 (by omega) ?_; intro v1 w2 hown3 hb3 hs2; have HO3 := Lib.hid hown3; have HB3 := Lib.hid hb3; clear hown3 hb3)
      go_roundw
      case rel => exact ⟨pos + K, b, acc ++ [(R : Int)], (HB3.out.block _ (by omega)).trans hit2, hwl, (by simp only [List.length_append, List.length_singleton]; omega), (by omega), Lib.hid (by rw [List.append_assoc]; exact HL3.out), Lib.hid (by simpa using HO3.out), Lib.hid (HB2.out.trans (HB3.out.mono (by omega)))⟩
      case measure =>
        have : w2.iterPos w.heap.size = pos + K := by rw [World.iterPos, (HB3.out.block _ (by omega)).trans hit2]
        rw [hip, this]; omega
    · have hnx : ∀ ty, (Instr.next (.pointer (some ⟨w.heap.size, 0, none⟩)) true ty).run Try.prog wr = _ := fun ty => Lib.run_next_end_at wr w.heap.size s pos ty hit hps
      have hL2 := HL.out
      rw [rns_end s b pos hps, List.append_nil] at hL2
      subst hL2
      go_wp2
      go_ret
      exact ⟨_, rfl, own_low HO.out (by omega), HB.out⟩
theorem runes_len' (s : ByteArray) : Hid ((runes s).length ≤ s.size) := Lib.hid (runes_len s)
set_option maxRecDepth 1000000 in
set_option maxHeartbeats 4000000 in
theorem weight_any (s : ByteArray) (hs : s.size ≤ 2000) (x : Int) (hx : x = weight s) (w : World) :
    Calls Try.prog 18 #[.string s] w fun e w' => e = .returned (.int .i64 x) ∧ Below w.heap.size w w' := by
  have hl := runes_len s
  have HX := Lib.hid hx
  clear hx
  go_enter Try.func18, Try.ntmps18
  go_wp2_with (go_at_call 26; refine (runes_any s hs _).mono ?_; rintro e w2 ⟨v, rfl, hown, hb2⟩; obtain ⟨A, c, rfl, hcs⟩ := own_cellsI .i32 hown; have KC := Lib.hid hcs; have HB := Lib.hid hb2; clear hown hcs hb2)
  have HX2 : Hid (x = wsum (runes s) (runes s).length) := Lib.hid (by rw [HX.out]; rfl)
  have HR := Lib.hid (runes_at s)
  clear HX
  generalize runes s = l at hl KC HX2 HR
  obtain ⟨L, hL⟩ : ∃ L, l.length = L := ⟨_, rfl⟩
  rw [hL] at KC hl HX2
  rw [hL]
  clear hL
  go_loopw [3, 9] (fun n i wr => ∃ j : Nat, j ≤ L ∧ i = .int .i64 j ∧ n = .int .i64 (wsum l j) ∧ Hid (Below w2.heap.size w2 wr)) (fun _ i _ => L - (intOf i).toNat)
  case atStart => exact ⟨0, by omega, rfl, rfl, Lib.hid (Below.refl _ _)⟩
  case round =>
    obtain ⟨j, hj, rfl, rfl, hb⟩ := hrel
    by_cases hlt : j < L
    · obtain ⟨ad, rfl, hc1, hk1, ha1⟩ := KC.out j hlt
      have hcell : wr.cell? (ad.add j) = some (.int .i32 (l.getD j 0)) := by
        rw [hb.out.cell (p := ad.add j) (by rw [ha1]; exact hk1), hc1]
      have hr := HR.out j
      have hsum := wsum_range l HR.out j (by omega)
      have hterm := wterm j (l.getD j 0) (by omega) hr
      have hstep : wsum l (j + 1) = wsum l j + ((j : Int) + 1) * l.getD j 0 := rfl
      clear hc1 hk1 ha1
      generalize l.getD j 0 = z at hcell hr hterm hstep
      obtain ⟨y, hy⟩ : ∃ y : Int, y = ((j : Int) + 1) * z := ⟨_, rfl⟩
      rw [← hy] at hterm hstep
      have HY := Lib.hid hy
      have HST := Lib.hid hstep
      clear hy hstep
      go_wp2
      go_roundw
      case rel => exact ⟨j + 1, by omega, by go_num, by rw [HST.out]; simp only [go_sem, wrap64, IntKind.wrap_i64]; rw [← HY.out]; congr 1; omega, hb⟩
      case measure => simp [intOf]; omega
    · have e : j = L := by omega
      subst e
      go_wp2
      go_ret
      exact ⟨ret_int HX2.out.symm, HB.out.trans (hb.out.mono HB.out.size)⟩
/-- May a text be a key? -/
def okKey (s : ByteArray) : Bool := decide (1 ≤ s.size ∧ s.size ≤ 8)
theorem right_is (s : ByteArray) (x : Bool) (hx : x = okKey s) (w : World) :
    Calls Try.prog 19 #[.string s] w fun e w' => e = .returned (.bool x) ∧ Below w.heap.size w w' := by
  refine (keys_Right.calls s x w ?_).mono fun e w' h => ⟨h.1, h.2.below⟩
  unfold keys_Right.f
  rw [hx]; unfold okKey
  split
  · rw [Option.some.injEq, decide_eq_decide]; omega
  · simp; omega
def shardN (s : ByteArray) (m : Int) : Int := if okKey s = true ∧ 1 ≤ m ∧ m ≤ 4 then weight s % m else 0
def shardE (s : ByteArray) (m : Int) : Int := if okKey s = true ∧ 1 ≤ m ∧ m ≤ 4 then 0 else 1
theorem ret_two {a b c d : Int} {k k' : IntKind} (h : a = b) (h' : c = d) : Ending.returned (.tuple #[.int k a, .int k' c]) = .returned (.tuple #[.int k b, .int k' d]) := by rw [h, h']
theorem ok_size {s : ByteArray} (h : okKey s = true) : s.size ≤ 2000 := by
  have := of_decide_eq_true h
  omega
set_option maxRecDepth 1000000 in
set_option maxHeartbeats 4000000 in
theorem shard_is (s : ByteArray) (m : Int) (n e : Int) (hn : n = shardN s m) (he : e = shardE s m) (w : World) :
    Calls Try.prog 17 #[.string s, .int .i64 m] w fun x w' => x = .returned (.tuple #[.int .i64 n, .int .i64 e]) ∧ Below w.heap.size w w' := by
  cases hk : okKey s with
  | false =>
    have hn0 : n = 0 := by rw [hn]; simp [shardN, hk]
    have he0 : e = 1 := by rw [he]; simp [shardE, hk]
    subst hn0 he0
    clear hn he
    go_enter Try.func17, Try.ntmps17
    go_wp2_with (go_at_call 19; refine (right_is s false hk.symm _).mono ?_; rintro e w1 ⟨rfl, hb⟩)
    go_ret2
    exact ⟨rfl, hb⟩
  | true =>
    have hs := ok_size hk
    by_cases h1 : m < 1
    · have hn0 : n = 0 := by rw [hn]; unfold shardN; rw [if_neg (by omega)]
      have he0 : e = 1 := by rw [he]; unfold shardE; rw [if_neg (by omega)]
      have d1 : decide (m < 1) = true := decide_eq_true h1
      subst hn0 he0
      clear hn he
      go_enter Try.func17, Try.ntmps17
      go_wp2_with (go_at_call 19; refine (right_is s true hk.symm _).mono ?_; rintro e w1 ⟨rfl, hb⟩)
      go_ret2
      exact ⟨rfl, hb⟩
    · have d1 : decide (m < 1) = false := decide_eq_false h1
      by_cases h4 : 4 < m
      · have hn0 : n = 0 := by rw [hn]; unfold shardN; rw [if_neg (by omega)]
        have he0 : e = 1 := by rw [he]; unfold shardE; rw [if_neg (by omega)]
        have d4 : decide (4 < m) = true := decide_eq_true h4
        subst hn0 he0
        clear hn he
        go_enter Try.func17, Try.ntmps17
        go_wp2_with (go_at_call 19; refine (right_is s true hk.symm _).mono ?_; rintro e w1 ⟨rfl, hb⟩)
        go_ret2
        exact ⟨rfl, hb⟩
      · have d4 : decide (4 < m) = false := decide_eq_false h4
        have hw := weight_range s hs
        obtain ⟨W, hW⟩ : ∃ W : Int, W = weight s := ⟨_, rfl⟩
        have hn0 : n = W % m := by rw [hn, hW]; unfold shardN; rw [if_pos ⟨hk, by omega, by omega⟩]
        have he0 : e = 0 := by rw [he]; unfold shardE; rw [if_pos ⟨hk, by omega, by omega⟩]
        rw [← hW] at hw
        have HW := Lib.hid hW
        have HN := Lib.hid hn0
        have hm0 : ¬ m = 0 := by omega
        subst he0
        clear hn he hn0 hW
        go_enter Try.func17, Try.ntmps17
        go_wp2_with (first | (go_at_call 19; refine (right_is s true hk.symm _).mono ?_; rintro e w1 ⟨rfl, hb⟩) | (go_at_call 18; refine (weight_any s hs W HW.out _).mono ?_; rintro e w2 ⟨rfl, hb2⟩))
        go_ret2
        exact ⟨ret_two HN.out.symm rfl, hb.trans (hb2.mono hb.size)⟩
theorem ab_weight : weight ⟨#[97, 98]⟩ = 293 := by decide
end Go.Proofs.Ytcoohapohkbnpaa.Keys
