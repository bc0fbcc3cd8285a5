/- What the claim ODS leans on: texts joined by bundle.py, a program of ours; the words cut down to what is used. -/
import Derived.Test.YtklbmdakoeoplaaBODS3
section
namespace Go.Proofs.Ytklbmdakoeoplaa.Strs
open Go.RowKit Go.Proofs.YtklbmdakoeoplaaW.PrintWords Go.Proofs.YtklbmdakoeoplaaW.PrintLast Go.Proofs.YtklbmdakoeoplaaW.PrintMore Go.Proofs.Ytklbmdakoeoplaa.X
set_option linter.unusedSimpArgs false
set_option linter.unusedVariables false
abbrev Rc := S44
theorem rdRc (r : List Rc) (i : Nat) (h : i < r.length) : rd_T44 r (i : Int) = r[i] := by unfold rd_T44; rw [Int.toNat_natCast]; simp [List.getD_eq_getElem?_getD, h]
/-- Records that are gone through. -/
def fewR (l : List Rc) : Prop := l.length ≤ 100 ∧ ∀ x ∈ l, small x.f4.f4 x.f4.f5
def sameB (x y : Rc) : Bool := sameI x.f0.f0 x.f0.f1 y
/-- The last record of each instance. -/
def knownB : List Rc → List Rc
  | [] => []
  | x :: l => if l.any (sameB x) = true then knownB l else x :: knownB l
theorem knownB_sub : ∀ l, (knownB l).Sublist l
  | [] => .slnil
  | x :: l => by
    unfold knownB
    split
    · exact (knownB_sub l).cons x
    · exact (knownB_sub l).cons_cons x
theorem fewR_sub {l l' : List Rc} (hs : l'.Sublist l) (h : fewR l) : fewR l' := ⟨Nat.le_trans hs.length_le h.1, fun x hx => h.2 x (hs.subset hx)⟩
theorem clone_rec (a b c d e s : Int) (r : List Rd) (w : List Wr) (m : Bool) (h : small r w) : command_Clone.f a b c d e s r w m = some (a, b, c, d, e, s, r, w, m) := by
  have hr := h.1
  have hw := h.2.1
  unfold command_Clone.f
  simp only [Option.bind_some, List.nil_append, List.length_nil]
  rw [if_pos (by omega), if_pos (by omega)]
theorem known_l0 (l : List Rc) (h : fewR l) : ∀ dd i (acc : List Rc), i + dd = l.length → acc.length ≤ i → Ev (fun k => index_Known.l0 k l acc l (l.length : Int) (i : Int)) (acc ++ knownB (l.drop i))
  | 0, i, acc, hi, ha => by
    refine Ev.step (f := fun _ => some acc) (fun k => ?_) (Ev.const ?_)
    · simp only [index_Known.l0]; rw [if_neg (by omega)]
    · rw [List.drop_eq_nil_of_le (by omega), knownB, List.append_nil]
  | dd + 1, i, acc, hi, ha => by
    have hil : i < l.length := by omega
    have hl := h.1
    have hd : knownB (l.drop i) = if (l.drop (i + 1)).any (sameB l[i]) = true then knownB (l.drop (i + 1)) else l[i] :: knownB (l.drop (i + 1)) := by rw [List.drop_eq_getElem_cons hil, knownB]
    have hs := h.2 _ (List.getElem_mem hil)
    have hf : api_Record.f (l.drop (i + 1)) l[i].f0.f0 l[i].f0.f1 = some ((l.drop (i + 1)).any (sameB l[i])) := by
      unfold api_Record.f; rw [if_pos (by rw [List.length_drop]; omega)]; rfl
    cases hc : (l.drop (i + 1)).any (sameB l[i]) with
    | true =>
      rw [hd, hc, if_pos rfl]
      refine Ev.step (fun k => ?_) (known_l0 l h dd (i + 1) acc (by omega) (by omega))
      simp only [index_Known.l0]
      rw [if_pos (by omega), if_pos (by omega), if_pos (by omega), w1 i (by omega), if_pos (by omega), if_pos (by omega), rdRc l i hil, Int.toNat_natCast, hf, hc, Option.bind_some, if_pos rfl]
    | false =>
      rw [hd, hc, if_neg (by simp)]
      have ih := known_l0 l h dd (i + 1) (acc ++ [l[i]]) (by omega) (by rw [List.length_append, List.length_singleton]; omega)
      rw [List.append_assoc, List.singleton_append] at ih
      refine Ev.step (fun k => ?_) ih
      simp only [index_Known.l0]
      rw [if_pos (by omega), if_pos (by omega), if_pos (by omega), w1 i (by omega), if_pos (by omega), if_pos (by omega), rdRc l i hil, Int.toNat_natCast, hf, hc, Option.bind_some, if_neg (by simp), clone_rec _ _ _ _ _ _ _ _ _ hs, Option.bind_some, if_pos (by omega)]
theorem known_is (l : List Rc) (h : fewR l) : Ev (fun k => index_Known.f k l) (knownB l) := by
  have := known_l0 l h l.length 0 [] (by omega) (by simp)
  exact (by simpa using this : Ev (fun k => index_Known.l0 k l [] l (l.length : Int) 0) (knownB l))
end Go.Proofs.Ytklbmdakoeoplaa.Strs
end
section
namespace Go.Proofs.Ytklbmdakoeoplaa.Strs
open Go.RowKit Go.Proofs.YtklbmdakoeoplaaW.PrintWords Go.Proofs.YtklbmdakoeoplaaW.PrintLast Go.Proofs.YtklbmdakoeoplaaW.PrintMore Go.Proofs.Ytklbmdakoeoplaa.X
set_option linter.unusedSimpArgs false
set_option linter.unusedVariables false
theorem keep_pos (p : Nat → Bool) : ∀ n t j, (keep n p)[t]? = some j → (keep j p).length = t ∧ p j = false ∧ j < n
  | 0, t, j, h => by simp [keep] at h
  | n + 1, t, j, h => by
    rw [keep_succ] at h
    by_cases ht : t < (keep n p).length
    · rw [List.getElem?_append_left ht] at h
      have := keep_pos p n t j h
      exact ⟨this.1, this.2.1, by omega⟩
    · rw [List.getElem?_append_right (by omega)] at h
      cases hp : p n with
      | true => rw [hp, if_pos rfl] at h; simp at h
      | false =>
        rw [hp, if_neg (by simp)] at h
        rw [List.getElem?_singleton] at h
        split at h
        · obtain rfl := Option.some.inj h
          exact ⟨by omega, hp, by omega⟩
        · cases h
theorem flat_at (css : Nat → List Value) : ∀ (l : List Nat) t j, l[t]? = some j → (∀ i ∈ l, (css i).length = 25) → ((l.flatMap css).drop (t * 25)).take 25 = css j
  | [], t, j, h, _ => by simp at h
  | i :: l, 0, j, h, hl => by
    obtain rfl : i = j := by simpa using h
    rw [List.flatMap_cons, Nat.zero_mul, List.drop_zero, List.take_append_of_le_length (by rw [hl i (by simp)]; exact Nat.le_refl _), List.take_of_length_le (by rw [hl i (by simp)]; exact Nat.le_refl _)]
  | i :: l, t + 1, j, h, hl => by
    have hi := hl i (by simp)
    rw [List.flatMap_cons, show (t + 1) * 25 = (css i).length + t * 25 by rw [hi]; omega, List.drop_append]
    rw [List.drop_eq_nil_of_le (by omega), List.nil_append, show (css i).length + t * 25 - (css i).length = t * 25 by omega]
    exact flat_at css l t j (by simpa using h) (fun k hk => hl k (List.mem_cons_of_mem _ hk))
theorem filter_keep (xs : List Rc) (q : Rc → Bool) : xs.filter (fun x => !q x) = (keep xs.length (fun j => q (xs.getD j z44))).map (fun j => xs.getD j z44) := by
  have h : (List.range xs.length).map (fun j => xs.getD j z44) = xs := by
    apply List.ext_getElem
    · simp
    · intro i h1 h2
      simp [List.getD_eq_getElem?_getD, h2]
  conv => lhs; rw [← h]
  rw [List.filter_map]
  rfl
/-- A row of records of one's own: its block, its cells, what its elements lead to. -/
theorem S_parts {w : World} {base : Nat} {ok : Nat → Prop} {v : Value} {xs : List Rc} (h : Kd.S k44 44 w base ok v xs) :
    (v = .slice none 0 0 ∧ xs = []) ∨ ∃ g c cur, ∃ f : Nat → Nat, v = .slice (some ⟨g, 0, none⟩) xs.length c ∧ base ≤ g ∧ w.heap[g]? = some (.cells cur 44 (0, 0)) ∧ xs.length ≤ c ∧ c ≤ maxLen ∧ cur.size = c * 25 ∧ ok g ∧ ∀ j x, xs[j]? = some x → k44.M w base (fun k => (ok k ∧ k ≠ g) ∧ f k = j) x ((cur.toList.drop (j * 25)).take 25) := by
  obtain ⟨f, h0, inner, ho, hr⟩ := h
  rw [List.length_zipIdx] at ho
  have hsz : k44.sz = 25 := rfl
  rcases ho with ⟨hl, ⟨rfl, hn⟩ | ⟨g, cap, cur, rfl, hg, hh, hn, hm, hs, ht⟩⟩
  · exact .inl ⟨rfl, List.eq_nil_of_length_eq_zero hn⟩
  · refine .inr ⟨g, cap, cur, f, rfl, hg, hh, hn, hm, hs, h0 g rfl, fun j x hx => ?_⟩
    have hj : j < xs.length := (List.getElem?_eq_some_iff.1 hx).1
    have := hr.2 j (x, j) (Kd.zip_at hx)
    rw [← ht] at this
    have e : ((cur.toList.take (xs.length * 25)).drop (j * 25)).take 25 = (cur.toList.drop (j * 25)).take 25 := by
      rw [List.drop_take, List.take_take, Nat.min_eq_left (by omega)]
    refine k44.M_mono (fun k hk => ⟨⟨hk.1.1, fun e => hk.1.2 (by rw [e]; rfl)⟩, hk.2⟩) (e ▸ this)
theorem S_keep {w w' : World} {base g c n : Nat} {cur cur' : Array Value} {f : Nat → Nat} {xs : List Rc} {p : Nat → Bool} (hn : n = xs.length) (hbase : base ≤ g) (hnc : n ≤ c) (hm : c ≤ maxLen) (hs : cur.size = c * 25)
    (hM : ∀ j x, xs[j]? = some x → k44.M w base (fun k => (True ∧ k ≠ g) ∧ f k = j) x ((cur.toList.drop (j * 25)).take 25)) (hh : w'.heap[g]? = some (.cells cur' 44 (0, 0))) (hs' : cur'.size = cur.size)
    (hf : cur'.toList.take ((keep n p).length * 25) = (keep n p).flatMap (fun j => (cur.toList.drop (j * 25)).take 25)) (hgr : w.grownBy w' (some g)) :
    Kd.S k44 44 w' base (fun _ => True) (.slice (some ⟨g, 0, none⟩) (keep n p).length c) ((keep n p).map (fun j => xs.getD j z44)) := by
  have hkl := keep_le n p
  have hlen : ∀ i ∈ keep n p, ((cur.toList.drop (i * 25)).take 25).length = 25 := fun i hi => by
    have : i < n := by
      have := (List.mem_filter.1 hi).1
      simpa using this
    rw [List.length_take, List.length_drop, Array.length_toList]; omega
  have hcl : cur'.toList.length = cur'.size := Array.length_toList
  have hlt : (cur'.toList.take ((keep n p).length * 25)).length = (keep n p).length * 25 := List.length_take_of_le (by rw [hcl, hs', hs]; omega)
  refine ⟨fun k => (keep (f k) p).length, fun _ _ => trivial, cur'.toList.take ((keep n p).length * 25), ?_, ?_, fun t y hy => ?_⟩
  · rw [List.length_zipIdx, List.length_map]
    exact ⟨hlt, .inr ⟨g, c, cur', rfl, hbase, hh, by omega, hm, by rw [hs', hs]; rfl, rfl⟩⟩
  · rw [List.length_zipIdx, List.length_map]
    exact hlt
  · rw [List.getElem?_zipIdx, Nat.zero_add] at hy
    obtain ⟨x, hx, rfl⟩ := Option.map_eq_some_iff.1 hy
    rw [List.getElem?_map] at hx
    obtain ⟨j, hj, rfl⟩ := Option.map_eq_some_iff.1 hx
    obtain ⟨hp1, hp2, hjn⟩ := keep_pos p n t j hj
    have hxj : xs[j]? = some (xs.getD j z44) := by
      rw [List.getElem?_eq_getElem (by omega)]
      simp [List.getD_eq_getElem?_getD, show j < xs.length by omega]
    have hm1 := k44.M_move (w1 := w') (fun k hk => hgr.block k hk.2.2.1 (fun e => hk.1.1.2 (Option.some.inj e))) (k44.M_bound (hM j _ hxj))
    rw [hf]
    show k44.M w' base _ _ ((((keep n p).flatMap fun j => (cur.toList.drop (j * 25)).take 25).drop (t * 25)).take 25)
    rw [flat_at _ (keep n p) t j hj hlen]
    refine k44.M_mono (fun k hk => ⟨⟨trivial, fun e => hk.1.1.2 (Option.some.inj e)⟩, ?_⟩) hm1
    show (keep (f k) p).length = t
    rw [hk.1.2]; exact hp1
def smallB (r : List Rd) (w : List Wr) : Bool := decide (r.length ≤ 20) && decide (w.length ≤ 20) && r.all (fun x => decide (x.f0.size ≤ 100)) && w.all (fun x => decide (x.f0.size ≤ 100) && decide (x.f1.size ≤ 100))
theorem smallB_iff (r : List Rd) (w : List Wr) : smallB r w = true ↔ small r w := by
  unfold smallB small
  simp only [Bool.and_eq_true, decide_eq_true_eq, List.all_eq_true]
  exact ⟨fun ⟨⟨⟨a, b⟩, c⟩, d⟩ => ⟨a, b, c, d⟩, fun ⟨a, b, c, d⟩ => ⟨⟨⟨a, b⟩, c⟩, d⟩⟩
def fewRB (l : List Rc) : Bool := decide (l.length ≤ 100) && l.all (fun x => smallB x.f4.f4 x.f4.f5)
theorem fewRB_iff (l : List Rc) : fewRB l = true ↔ fewR l := by
  unfold fewRB fewR
  simp only [Bool.and_eq_true, decide_eq_true_eq, List.all_eq_true, smallB_iff]
/-- A record does not count. -/
def outB (i0 i1 d0 d1 d2 : Int) (r : List Rd) (w : List Wr) (x : Rc) : Bool := (x.f0.f0 == i0 && (x.f0.f1 == i1)) || decide (x.f1 ≤ 0) || !interB x.f4.f0 x.f4.f1.f0 x.f4.f1.f1 x.f4.f4 x.f4.f5 d0 d1 d2 r w
def againstB (l : List Rc) (i0 i1 d0 d1 d2 : Int) (r : List Rd) (w : List Wr) : List Rc := (knownB l).filter (fun x => !outB i0 i1 d0 d1 d2 r w x)
end Go.Proofs.Ytklbmdakoeoplaa.Strs
namespace Go.Proofs.Ytklbmdakoeoplaa.X
open Go.RowKit Go.Proofs.Ytklbmdakoeoplaa.Strs Go.Proofs.YtklbmdakoeoplaaW.PrintWords Go.Proofs.YtklbmdakoeoplaaW.PrintLast Go.Proofs.YtklbmdakoeoplaaW.PrintMore
set_option linter.unusedSimpArgs false
set_option linter.unusedVariables false
def index_Against.f (l0 : List S44) (a1_0 : Int) (a1_1 : Int) (a2_0 : Int) (a2_1 : Int) (a2_2 : Int) (a2_3 : Int) (a2_4 : Int) (a2_5 : Int) (l2_6 : List S61) (l2_7 : List S46) (a2_8 : Bool) : Option (List S44) :=
  if fewRB l0 && smallB l2_6 l2_7 then some (againstB l0 a1_0 a1_1 a2_0 a2_1 a2_2 l2_6 l2_7) else none
set_option maxRecDepth 100000 in
set_option maxHeartbeats 4000000 in
theorem deleteFunc_none (gi gc : Nat) (w : World) :
    Calls Try.prog 34 #[.slice none 0 0, .func (.func 35) #[] #[.pointer (some ⟨gi, 0, none⟩), .pointer (some ⟨gc, 0, none⟩)]] w fun e w' => e = .returned (.slice none 0 0) ∧ Below w.heap.size w w' := by
  have HI := Lib.hid (indexFunc_against none 0 0 (fun _ => false) gi gc w (by omega) (fun j hj => by omega))
  go_enter Try.func34, Try.ntmps34
  go_wp2_with (go_at_call 43; refine HI.out.mono ?_; rintro e w0 ⟨m, rfl, hm, hb0⟩; obtain rfl : m = -1 := (by rcases hm with ⟨h, _⟩ | ⟨i, _, hi, _⟩; exact h; omega); have HB0 := Lib.hid hb0; clear hm hb0)
  go_ret
  exact ⟨rfl, HB0.out⟩
theorem outs_ev (i0 i1 d0 d1 d2 d3 d4 d5 : Int) (r : List Rd) (w : List Wr) (m : Bool) (x : Rc) (hx : small x.f4.f4 x.f4.f5) (h : small r w) : ∃ k, command_Interfere.f k x.f4.f0 x.f4.f1.f0 x.f4.f1.f1 x.f4.f2.f0 x.f4.f2.f1 x.f4.f3 x.f4.f4 x.f4.f5 x.f4.f6 d0 d1 d2 d3 d4 d5 r w m = some (interB x.f4.f0 x.f4.f1.f0 x.f4.f1.f1 x.f4.f4 x.f4.f5 d0 d1 d2 r w) := by
  obtain ⟨K, hK⟩ := inter_is x.f4.f0 x.f4.f1.f0 x.f4.f1.f1 x.f4.f2.f0 x.f4.f2.f1 x.f4.f3 x.f4.f4 x.f4.f5 x.f4.f6 d0 d1 d2 d3 d4 d5 r w m hx h
  exact ⟨K, hK K (Nat.le_refl _)⟩
set_option maxRecDepth 100000 in
set_option maxHeartbeats 8000000 in
/-- What DeleteFunc leaves of records that are known. -/
theorem delete_known (v : Value) (xs : List Rc) (base : Nat) (i0 i1 d0 d1 d2 d3 d4 d5 : Int) (D6 : Option Addr) (e6 : Nat) (yr : List Rd) (D7 : Option Addr) (e7 : Nat) (yw : List Wr) (d8 : Bool) (gi gc : Nat) (w : World) (hx : fewR xs) (hy : small yr yw)
    (hS : Kd.S k44 44 w base (fun _ => True) v xs) (hgi : gi < base) (hgc : gc < base)
    (hi : w.heap[gi]? = some (.cells #[.int .i64 i0, .int .i64 i1] 24 (0, 0))) (hc : w.heap[gc]? = some (.cells #[.int .i64 d0, .int .i64 d1, .int .i64 d2, .int .i64 d3, .int .i64 d4, .int .i64 d5, .slice D6 yr.length e6, .slice D7 yw.length e7, .bool d8] 32 (0, 0)))
    (hbw : base ≤ w.heap.size) (r6 : ∀ w1 : World, Below base w w1 → Kd.C k61 w1 D6 yr.length yr) (h6 : yr.length ≤ e6) (r7 : ∀ w1 : World, Below base w w1 → Kd.C k46 w1 D7 yw.length yw) (h7 : yw.length ≤ e7) :
    Calls Try.prog 34 #[v, .func (.func 35) #[] #[.pointer (some ⟨gi, 0, none⟩), .pointer (some ⟨gc, 0, none⟩)]] w fun e w' => ∃ v0_ : Value, e = .returned v0_ ∧ Kd.S k44 44 w' base (fun _ => True) v0_ (xs.filter (fun x => !outB i0 i1 d0 d1 d2 yr yw x)) ∧ Below base w w' := by
  rcases S_parts hS with ⟨rfl, rfl⟩ | ⟨g, c, cur, f, rfl, hg, hh, hn, hm, hs, _, hM⟩
  · refine (deleteFunc_none gi gc w).mono ?_
    rintro e w' ⟨rfl, hb⟩
    refine ⟨_, rfl, Kd.S_nil _ _ _ _ _, ⟨hb.os, hb.tape, hb.output, hb.size, fun k hk => hb.block k (by omega)⟩⟩
  · have hzx : ∀ j, j < xs.length → xs[j]? = some (xs.getD j z44) := fun j hj => by
      rw [List.getElem?_eq_getElem hj]; simp [List.getD_eq_getElem?_getD, hj]
    refine (deleteFunc_any g xs.length c cur (fun j => (cur.toList.drop (j * 25)).take 25) (fun j => outB i0 i1 d0 d1 d2 yr yw (xs.getD j z44)) gi gc w hh hs hn (by have := hx.1; omega) (fun _ _ => rfl) (fun j hj u hu => ?_) (fun j hj w1 hw1 => ?_)).mono ?_
    · exact k44.K_one (k44.K_of_M (hM j _ (hzx j hj))) u hu
    · have hne : ∀ k, k < base → w1.heap[k]? = w.heap[k]? := fun k hk => by
        rcases Nat.lt_or_ge k w.heap.size with h | h
        · exact hw1.block k h (fun e => by have := Option.some.inj e; omega)
        · exfalso
          have := blk_lt hh
          omega
      have hB : Below base w w1 := ⟨hw1.os, hw1.tape, hw1.output, hw1.size, hne⟩
      have hm1 := k44.M_move (w1 := w1) (fun k hk => hw1.block k hk.2.2.1 (fun e => hk.1.1.2 (Option.some.inj e))) (k44.M_bound (hM j _ (hzx j hj)))
      obtain ⟨A13, c13, A14, c14, hcs, l13, g13, l14, g14⟩ := k44_open (k44.K_of_M hm1)
      obtain ⟨k1, hk1⟩ := outs_ev i0 i1 d0 d1 d2 d3 d4 d5 yr yw d8 (xs.getD j z44) (hx.2 _ (List.mem_of_getElem? (hzx j hj))) hy
      show Calls _ _ #[.agg ((cur.toList.drop (j * 25)).take 25).toArray, _, _] _ _
      rw [hcs]
      exact against1_any k1 _ _ _ _ _ _ _ _ _ _ _ _ _ A13 c13 _ A14 c14 _ _ _ _ _ _ _ _ _ _ _ i0 i1 d0 d1 d2 d3 d4 d5 D6 e6 yr D7 e7 yw d8 gi gc w1 ((hne gi hgi).trans hi) ((hne gc hgc).trans hc) g13 l13 g14 l14 (r6 w1 hB) h6 (r7 w1 hB) h7 _ hk1
    · rintro e w' ⟨cur', rfl, k1, k2, k3, kg⟩
      refine ⟨_, rfl, ?_, ⟨kg.os, kg.tape, kg.output, kg.size, fun k hk => ?_⟩⟩
      · rw [filter_keep]
        exact S_keep rfl hg hn hm hs hM k1 k2 k3 kg
      · rcases Nat.lt_or_ge k w.heap.size with h | h
        · exact kg.block k h (fun e => by have := Option.some.inj e; omega)
        · exfalso
          have := blk_lt hh
          omega
theorem below_lower {B B2 : Nat} {w w1 : World} (h : Below B w w1) (hb : B2 ≤ B) : Below B2 w w1 := ⟨h.os, h.tape, h.output, h.size, fun k hk => h.block k (by omega)⟩
set_option maxRecDepth 100000 in
set_option maxHeartbeats 4000000 in
theorem index_Against.calls (A0 : Option Addr) (c0 : Nat) (l0 : List S44) (a1_0 : Int) (a1_1 : Int) (a2_0 : Int) (a2_1 : Int) (a2_2 : Int) (a2_3 : Int) (a2_4 : Int) (a2_5 : Int) (A2_6 : Option Addr) (c2_6 : Nat) (l2_6 : List S61) (A2_7 : Option Addr) (c2_7 : Nat) (l2_7 : List S46) (a2_8 : Bool) (r : List S44) (w : World) (hr0 : Kd.C k44 w A0 l0.length l0) (hc0 : l0.length ≤ c0) (hr2_6 : Kd.C k61 w A2_6 l2_6.length l2_6) (hc2_6 : l2_6.length ≤ c2_6) (hr2_7 : Kd.C k46 w A2_7 l2_7.length l2_7) (hc2_7 : l2_7.length ≤ c2_7) (h : index_Against.f l0 a1_0 a1_1 a2_0 a2_1 a2_2 a2_3 a2_4 a2_5 l2_6 l2_7 a2_8 = some r) :
    Calls Try.prog 15 #[.slice A0 l0.length c0, .agg #[.int .i64 a1_0, .int .i64 a1_1], .agg #[.int .i64 a2_0, .int .i64 a2_1, .int .i64 a2_2, .int .i64 a2_3, .int .i64 a2_4, .int .i64 a2_5, .slice A2_6 l2_6.length c2_6, .slice A2_7 l2_7.length c2_7, .bool a2_8]] w fun e w' => ∃ v0_ : Value, e = .returned (v0_) ∧ Kd.S k44 44 w' w.heap.size (fun _ => True) v0_ r ∧ Below w.heap.size w w' := by
  unfold index_Against.f at h
  cases hg : (fewRB l0 && smallB l2_6 l2_7) with
  | false => rw [hg, if_neg (by simp)] at h; cases h
  | true =>
    rw [hg, if_pos rfl] at h
    rw [Bool.and_eq_true, fewRB_iff, smallB_iff] at hg
    obtain ⟨K, hK⟩ := known_is l0 hg.1
    have HX := Aside0.mk (Option.some.inj h)
    have HN := Aside0.mk (hK K (Nat.le_refl _))
    have HF := Aside0.mk (fewR_sub (knownB_sub l0) hg.1)
    have HY := Aside0.mk hg.2
    have R0 := Aside0.mk hr0
    have R6 := Aside0.mk hr2_6
    have R7 := Aside0.mk hr2_7
    have C0 := Aside0.mk hc0
    have C6 := Aside0.mk hc2_6
    have C7 := Aside0.mk hc2_7
    clear h hg hK hr0 hr2_6 hr2_7 hc0 hc2_6 hc2_7
    go_enter Try.func15, Try.ntmps15
    go_wp2_with (first
      | ((with_reducible refine gate_dst (N := 4) rfl ?_); refine box_event ?hg (N := 4) ?hd (cs := #[.int .i64 a1_0, .int .i64 a1_1]) (t := 24) ?hr ?_; (case hd => rfl); (case hg => rfl); (case hr => first | (go_simp; done) | (go_simp; rfl)); intro gi hg w4 hbox hb; have HB4 := Aside0.mk hb; have BI := Aside0.mk hbox; clear hbox hb hg)
      | ((with_reducible refine gate_dst (N := 5) rfl ?_); refine box_event ?hg2 (N := 5) ?hd2 (cs := #[.int .i64 a2_0, .int .i64 a2_1, .int .i64 a2_2, .int .i64 a2_3, .int .i64 a2_4, .int .i64 a2_5, .slice A2_6 l2_6.length c2_6, .slice A2_7 l2_7.length c2_7, .bool a2_8]) (t := 32) ?hr2 ?_; (case hd2 => rfl); (case hg2 => rfl); (case hr2 => first | (go_simp; done) | (go_simp; rfl)); intro gc hg w5 hbox hb; have HB5 := Aside0.mk (below_step HB4.out hb); have BI5 := Aside0.mk (blk_below BI.out hb); have BC := Aside0.mk hbox; clear hbox hb hg)
      | (go_at_call 14; refine (index_Known.calls K A0 c0 l0 (knownB l0) _ (Kd.C_below R0.out HB5.out) C0.out HN.out).mono ?_; rintro e w6 ⟨v6, rfl, hs, hb⟩; have HB6 := Aside0.mk hb; have HS := Aside0.mk hs; have BI6 := Aside0.mk (blk_below BI5.out hb); have BC6 := Aside0.mk (blk_below BC.out hb); clear hs hb)
      | (go_at_call 34; refine (delete_known v6 (knownB l0) w5.heap.size a1_0 a1_1 a2_0 a2_1 a2_2 a2_3 a2_4 a2_5 A2_6 c2_6 l2_6 A2_7 c2_7 l2_7 a2_8 gi gc _ HF.out HY.out HS.out (blk_lt BI5.out) (blk_lt BC.out) BI6.out BC6.out HB6.out.size (fun w1 h1 => Kd.C_below (Kd.C_below R6.out HB5.out) (HB6.out.trans h1)) C6.out (fun w1 h1 => Kd.C_below (Kd.C_below R7.out HB5.out) (HB6.out.trans h1)) C7.out).mono ?_; rintro e w7 ⟨v7, rfl, hs, hb⟩; have HB7 := Aside0.mk hb; have HS7 := Aside0.mk hs; clear hs hb))
    go_ret
    exact ⟨v7, rfl, HX.out ▸ Kd.S_lower HS7.out HB5.out.size, HB5.out.trans ((below_lower HB6.out HB5.out.size).trans (below_lower HB7.out HB5.out.size))⟩
end Go.Proofs.Ytklbmdakoeoplaa.X
end
section
namespace Go.Proofs.Ytklbmdakoeoplaa.X
open Go.RowKit Go.Proofs.YtklbmdakoeoplaaW.PrintWords Go.Proofs.YtklbmdakoeoplaaW.PrintLast Go.Proofs.YtklbmdakoeoplaaW.PrintMore
attribute [local go_sem] max2_int min2_int max_two min_two max_three min_three max_four min_four   -- for this text's walks alone
set_option linter.unusedVariables false
set_option linter.unusedSimpArgs false
/-! ### index_Attrs: function 21 -/
def index_Attrs.l0 : Nat → Int → List (S44) → Int → Int → Int → Int → Int → Int → Int → Int → Int → Option (Int × Int × Int × Int × Int × Int × Int × Int)
 | 0, _, _, _, _, _, _, _, _, _, _, _ => none
 | k + 1, x3, x17, x18, x19, x116000, x116001, x116002, x116003, x116004, x116005, x116006 => if x19 < x18 then (if 0 ≤ x19 then (if x19 < (x17.length : Int) then ((deps_With.f x116000 x116001 x116002 x116003 x116004 x116005 x116006 ((rd_T44 x17 x19).f0.f0) ((rd_T44 x17 x19).f0.f1)).bind fun bt122 => (index_Attrs.l0 k (mx x3 (wrap64 ((mn ((rd_T44 x17 x19).f5) 1099511627775) + 1))) x17 x18 (wrap64 (x19 + 1)) bt122.1 bt122.2.1 bt122.2.2.1 bt122.2.2.2.1 bt122.2.2.2.2.1 bt122.2.2.2.2.2.1 bt122.2.2.2.2.2.2)) else (none)) else (none)) else (some (x3, x116000, x116001, x116002, x116003, x116004, x116005, x116006))
def index_Attrs.f (k : Nat) (l0 : List (S44)) (a1_0 : Int) (a1_1 : Int) (a2_0 : Int) (a2_1 : Int) (a2_2 : Int) (a2_3 : Int) (a2_4 : Int) (a2_5 : Int) (l2_6 : List (S61)) (l2_7 : List (S46)) (a2_8 : Bool) (a3 : Int) (a4_0 : Int) (a4_1 : Int) (a4_2 : Int) (a4_3 : Int) (a4_4 : Int) (a4_5 : Int) (a4_6 : Int) : Option (Int × Int × Int × Int × Int × Int × Int × Int) := (index_Against.f l0 a1_0 a1_1 a2_0 a2_1 a2_2 a2_3 a2_4 a2_5 l2_6 l2_7 a2_8).bind fun t117 => (index_Attrs.l0 k a3 t117 (t117.length : Int) 0 a4_0 a4_1 a4_2 a4_3 a4_4 a4_5 a4_6)
set_option maxHeartbeats 8000000 in
set_option maxRecDepth 100000 in
theorem index_Attrs.calls (k : Nat) (A0 : Option Addr) (c0 : Nat) (l0 : List (S44)) (a1_0 : Int) (a1_1 : Int) (a2_0 : Int) (a2_1 : Int) (a2_2 : Int) (a2_3 : Int) (a2_4 : Int) (a2_5 : Int) (A2_6 : Option Addr) (c2_6 : Nat) (l2_6 : List (S61)) (A2_7 : Option Addr) (c2_7 : Nat) (l2_7 : List (S46)) (a2_8 : Bool) (a3 : Int) (a4_0 : Int) (a4_1 : Int) (a4_2 : Int) (a4_3 : Int) (a4_4 : Int) (a4_5 : Int) (a4_6 : Int) (r1 : Int) (r2 : Int) (r3 : Int) (r4 : Int) (r5 : Int) (r6 : Int) (r7 : Int) (r8 : Int) (w : World) (hr0 : Kd.C k44 w A0 l0.length l0) (hc0 : l0.length ≤ c0) (hr2_6 : Kd.C k61 w A2_6 l2_6.length l2_6) (hc2_6 : l2_6.length ≤ c2_6) (hr2_7 : Kd.C k46 w A2_7 l2_7.length l2_7) (hc2_7 : l2_7.length ≤ c2_7) (h : index_Attrs.f k l0 a1_0 a1_1 a2_0 a2_1 a2_2 a2_3 a2_4 a2_5 l2_6 l2_7 a2_8 a3 a4_0 a4_1 a4_2 a4_3 a4_4 a4_5 a4_6 = some (r1, r2, r3, r4, r5, r6, r7, r8)) :
 Calls Try.prog 21 #[.slice A0 l0.length c0, .agg #[.int .i64 a1_0, .int .i64 a1_1], .agg #[.int .i64 a2_0, .int .i64 a2_1, .int .i64 a2_2, .int .i64 a2_3, .int .i64 a2_4, .int .i64 a2_5, .slice A2_6 l2_6.length c2_6, .slice A2_7 l2_7.length c2_7, .bool a2_8], .int .i64 a3, .agg #[.int .i64 a4_0, .int .i64 a4_1, .int .i64 a4_2, .int .i64 a4_3, .int .i64 a4_4, .int .i64 a4_5, .int .i64 a4_6]] w fun e w' => e = .returned (.tuple #[.int .i64 r1, .agg #[.int .i64 r2, .int .i64 r3, .int .i64 r4, .int .i64 r5, .int .i64 r6, .int .i64 r7, .int .i64 r8]]) ∧ Below w.heap.size w w' := by
 have hu24 := Try.underlying24
 have hu32 := Try.underlying32
 have hu42 := Try.underlying42
 have hu44 := Try.underlying44
 have HR0 := Aside0.mk hr0
 have HC0 := Aside0.mk hc0
 clear hr0 hc0
 have HR2_6 := Aside0.mk hr2_6
 have HC2_6 := Aside0.mk hc2_6
 clear hr2_6 hc2_6
 have HR2_7 := Aside0.mk hr2_7
 have HC2_7 := Aside0.mk hc2_7
 clear hr2_7 hc2_7
 have HB := Aside0.mk (Below.refl w.heap.size w)
 have H : ((index_Against.f l0 a1_0 a1_1 a2_0 a2_1 a2_2 a2_3 a2_4 a2_5 l2_6 l2_7 a2_8).bind fun t117 => (index_Attrs.l0 k a3 t117 (t117.length : Int) 0 a4_0 a4_1 a4_2 a4_3 a4_4 a4_5 a4_6)) = some (r1, r2, r3, r4, r5, r6, r7, r8) := h
 clear h
 obtain ⟨t117, A6, H⟩ := bs_ H
 have H' := Aside0.mk H
 clear H
 go_enter Try.func21, Try.ntmps21
 go_wp2_with (first | ((with_reducible refine gate_dst (N := 6) rfl ?_); refine box_event ?hg (N := 6) ?hd (cs := #[.int .i64 a1_0, .int .i64 a1_1]) (t := 24) ?hr ?_; (case hd => rfl); (case hg => rfl); (case hr => first | (go_simp; done) | (go_simp; rfl)); intro gb113 hg w7 hbox hb; have n0_ := Aside0.mk (below_step lb_ hb); have n1_ := Aside0.mk (hbox); have n2_ := Aside0.mk ((by rw [hg]; exact (below_size lb_) : w.heap.size ≤ gb113)); have n3_ := Aside0.mk ((by rw [hg]; exact (below_size lb_) : w.heap.size ≤ gb113)); clear HB; have HB := n0_; have BK113 := n1_; have GW113 := n2_; have GE113 := n3_; clear n0_ n1_ n2_ n3_; clear hb hbox hg) | ((with_reducible refine gate_dst (N := 7) rfl ?_); refine box_event ?hg (N := 7) ?hd (cs := #[.int .i64 a2_0, .int .i64 a2_1, .int .i64 a2_2, .int .i64 a2_3, .int .i64 a2_4, .int .i64 a2_5, .slice A2_6 l2_6.length c2_6, .slice A2_7 l2_7.length c2_7, .bool a2_8]) (t := 32) ?hr ?_; (case hd => rfl); (case hg => rfl); (case hr => first | (go_simp; done) | (go_simp; rfl)); intro gb114 hg w8 hbox hb; have n0_ := Aside0.mk (blk_below (kb_ BK113.out) hb); have n1_ := Aside0.mk (below_step (by repeat (first | (with_reducible first | exact HB.out | apply below_alloc | apply pw_below_drewN | apply below_drew1 | refine below_set ?_ GE113.out) | exact HB.out)) hb); have n2_ := Aside0.mk (hbox); have n3_ := Aside0.mk ((by rw [hg]; exact (below_size (by repeat (first | (with_reducible first | exact HB.out | apply below_alloc | apply pw_below_drewN | apply below_drew1 | refine below_set ?_ GE113.out) | exact HB.out))) : w.heap.size ≤ gb114)); have n4_ := Aside0.mk ((by rw [hg]; exact (below_size (by repeat (first | (with_reducible first | exact HB.out | apply below_alloc | apply pw_below_drewN | apply below_drew1 | refine below_set ?_ GE113.out) | exact HB.out))) : w.heap.size ≤ gb114)); have n5_ := Aside0.mk ((by rw [hg]; exact Nat.ne_of_lt (blk_lt (kb_ BK113.out)) : gb113 ≠ gb114)); have n6_ := Aside0.mk ((by rw [hg]; exact Nat.ne_of_gt (blk_lt (kb_ BK113.out)) : gb114 ≠ gb113)); clear BK113; clear HB; have BK113 := n0_; have HB := n1_; have BK114 := n2_; have GW114 := n3_; have GE114 := n4_; have NB113_114 := n5_; have NB114_113 := n6_; clear n0_ n1_ n2_ n3_ n4_ n5_ n6_; clear hb hbox hg) | ((with_reducible refine gate_dst (N := 9) rfl ?_); refine box_event ?hg (N := 9) ?hd (cs := #[.int .i64 a4_0, .int .i64 a4_1, .int .i64 a4_2, .int .i64 a4_3, .int .i64 a4_4, .int .i64 a4_5, .int .i64 a4_6]) (t := 42) ?hr ?_; (case hd => rfl); (case hg => rfl); (case hr => first | (go_simp; done) | (go_simp; rfl)); intro gb115 hg w9 hbox hb; have n0_ := Aside0.mk (blk_below (kb_ BK113.out) hb); have n1_ := Aside0.mk (blk_below (kb_ BK114.out) hb); have n2_ := Aside0.mk (below_step (by repeat (first | (with_reducible first | exact HB.out | apply below_alloc | apply pw_below_drewN | apply below_drew1 | refine below_set ?_ GE113.out | refine below_set ?_ GE114.out) | exact HB.out)) hb); have n3_ := Aside0.mk (hbox); have n4_ := Aside0.mk ((by rw [hg]; exact (below_size (by repeat (first | (with_reducible first | exact HB.out | apply below_alloc | apply pw_below_drewN | apply below_drew1 | refine below_set ?_ GE113.out | refine below_set ?_ GE114.out) | exact HB.out))) : w.heap.size ≤ gb115)); have n5_ := Aside0.mk ((by rw [hg]; exact (below_size (by repeat (first | (with_reducible first | exact HB.out | apply below_alloc | apply pw_below_drewN | apply below_drew1 | refine below_set ?_ GE113.out | refine below_set ?_ GE114.out) | exact HB.out))) : w.heap.size ≤ gb115)); have n6_ := Aside0.mk ((by rw [hg]; exact Nat.ne_of_lt (blk_lt (kb_ BK113.out)) : gb113 ≠ gb115)); have n7_ := Aside0.mk ((by rw [hg]; exact Nat.ne_of_gt (blk_lt (kb_ BK113.out)) : gb115 ≠ gb113)); have n8_ := Aside0.mk ((by rw [hg]; exact Nat.ne_of_lt (blk_lt (kb_ BK114.out)) : gb114 ≠ gb115)); have n9_ := Aside0.mk ((by rw [hg]; exact Nat.ne_of_gt (blk_lt (kb_ BK114.out)) : gb115 ≠ gb114)); clear BK113; clear BK114; clear HB; have BK113 := n0_; have BK114 := n1_; have HB := n2_; have BK115 := n3_; have GW115 := n4_; have GE115 := n5_; have NB113_115 := n6_; have NB115_113 := n7_; have NB114_115 := n8_; have NB115_114 := n9_; clear n0_ n1_ n2_ n3_ n4_ n5_ n6_ n7_ n8_ n9_; clear hb hbox hg) | ((with_reducible refine gate_dst (N := 11) rfl ?_); refine box_event ?hg (N := 11) ?hd (cs := #[.int .i64 0, .int .i64 0, .int .i64 0, .int .i64 0, .int .i64 0, .int .i64 0, .int .i64 0]) (t := 42) ?hr ?_; (case hd => rfl); (case hg => rfl); (case hr => first | (go_simp; done) | (go_simp; rfl)); intro gb116 hg w10 hbox hb; have n0_ := Aside0.mk (blk_below (kb_ BK113.out) hb); have n1_ := Aside0.mk (blk_below (kb_ BK114.out) hb); have n2_ := Aside0.mk (blk_below (kb_ BK115.out) hb); have n3_ := Aside0.mk (below_step (by repeat (first | (with_reducible first | exact HB.out | apply below_alloc | apply pw_below_drewN | apply below_drew1 | refine below_set ?_ GE113.out | refine below_set ?_ GE114.out | refine below_set ?_ GE115.out) | exact HB.out)) hb); have n4_ := Aside0.mk (hbox); have n5_ := Aside0.mk ((by rw [hg]; exact (below_size (by repeat (first | (with_reducible first | exact HB.out | apply below_alloc | apply pw_below_drewN | apply below_drew1 | refine below_set ?_ GE113.out | refine below_set ?_ GE114.out | refine below_set ?_ GE115.out) | exact HB.out))) : w.heap.size ≤ gb116)); have n6_ := Aside0.mk ((by rw [hg]; exact (below_size (by repeat (first | (with_reducible first | exact HB.out | apply below_alloc | apply pw_below_drewN | apply below_drew1 | refine below_set ?_ GE113.out | refine below_set ?_ GE114.out | refine below_set ?_ GE115.out) | exact HB.out))) : w.heap.size ≤ gb116)); have n7_ := Aside0.mk ((by rw [hg]; exact Nat.ne_of_lt (blk_lt (kb_ BK113.out)) : gb113 ≠ gb116)); have n8_ := Aside0.mk ((by rw [hg]; exact Nat.ne_of_gt (blk_lt (kb_ BK113.out)) : gb116 ≠ gb113)); have n9_ := Aside0.mk ((by rw [hg]; exact Nat.ne_of_lt (blk_lt (kb_ BK114.out)) : gb114 ≠ gb116)); have n10_ := Aside0.mk ((by rw [hg]; exact Nat.ne_of_gt (blk_lt (kb_ BK114.out)) : gb116 ≠ gb114)); have n11_ := Aside0.mk ((by rw [hg]; exact Nat.ne_of_lt (blk_lt (kb_ BK115.out)) : gb115 ≠ gb116)); have n12_ := Aside0.mk ((by rw [hg]; exact Nat.ne_of_gt (blk_lt (kb_ BK115.out)) : gb116 ≠ gb115)); clear BK113; clear BK114; clear BK115; clear HB; have BK113 := n0_; have BK114 := n1_; have BK115 := n2_; have HB := n3_; have BK116 := n4_; have GW116 := n5_; have GE116 := n6_; have NB113_116 := n7_; have NB116_113 := n8_; have NB114_116 := n9_; have NB116_114 := n10_; have NB115_116 := n11_; have NB116_115 := n12_; clear n0_ n1_ n2_ n3_ n4_ n5_ n6_ n7_ n8_ n9_ n10_ n11_ n12_; clear hb hbox hg; have hnb11 := NB113_114.out; have hnc11 := NB114_113.out; have hnb12 := NB113_115.out; have hnc12 := NB115_113.out; have hnb13 := NB113_116.out; have hnc13 := NB116_113.out; refine blk2_ BK113.out fun hcz14_0 hcz14_1 hfz14_0 hfz14_1 => ?_) | ((with_reducible refine gate_dst (N := 16) rfl ?_); (try (refine gate_guard (by rfl) ?_; dsimp only)); refine blk_load_event ?lg (N := 16) ?ld (t := 32) (x := ?lxxz15) ?lo (g := gb114) ?lx (cs := _) BK114.out ?lD ?lt ?_; (case lg => rfl); (case ld => rfl); (case lo => rfl); (case lx => first | rfl | (go_simp; done) | (go_simp; rfl)); (case lD => exact ⟨_, Try.underlying32, rfl⟩); (case lt => kernel_rfl)) | ((with_reducible refine gate_callee (f := 15) rfl ?_); refine goesL_ (some 17) rfl rfl Try.func15 (by kernel_rfl) rfl #[.slice A0 l0.length c0, .agg #[.int .i64 a1_0, .int .i64 a1_1], .agg #[.int .i64 a2_0, .int .i64 a2_1, .int .i64 a2_2, .int .i64 a2_3, .int .i64 a2_4, .int .i64 a2_5, .slice A2_6 l2_6.length c2_6, .slice A2_7 l2_7.length c2_7, .bool a2_8]] rfl (by (try simp only [List.map_toArray, List.map_cons, List.map_nil]); first | done | rfl | (simp only [List.length_drop, List.length_take]; rfl)) ?_; (with_reducible refine (index_Against.calls _ _ l0 a1_0 a1_1 a2_0 a2_1 a2_2 a2_3 a2_4 a2_5 _ _ l2_6 _ _ l2_7 a2_8 t117 _ ?side1 ?side2 ?side3 ?side4 ?side5 ?side6 A6.out).mono ?_); (case side1 => exact kc_ (Kd.C_below HR0.out HB.out)); (case side2 => exact HC0.out); (case side3 => exact kc_ (Kd.C_below HR2_6.out HB.out)); (case side4 => exact HC2_6.out); (case side5 => exact kc_ (Kd.C_below HR2_7.out HB.out)); (case side6 => exact HC2_7.out); rintro e w16 ⟨v118, rfl, ho0, hb⟩; refine ⟨_, rfl, ?_⟩; have n0_ := Aside0.mk (Kd.S_lower ho0 (below_size (by repeat (first | (with_reducible first | exact HB.out | apply below_alloc | apply pw_below_drewN | apply below_drew1 | refine below_set ?_ GE113.out | refine below_set ?_ GE114.out | refine below_set ?_ GE115.out | refine below_set ?_ GE116.out) | exact HB.out)))); have n1_ := Aside0.mk (blk_below (kb_ BK113.out) hb); have n2_ := Aside0.mk (blk_below (kb_ BK114.out) hb); have n3_ := Aside0.mk (blk_below (kb_ BK115.out) hb); have n4_ := Aside0.mk (blk_below (kb_ BK116.out) hb); have n5_ := Aside0.mk (below_step (by repeat (first | (with_reducible first | exact HB.out | apply below_alloc | apply pw_below_drewN | apply below_drew1 | refine below_set ?_ GE113.out | refine below_set ?_ GE114.out | refine below_set ?_ GE115.out | refine below_set ?_ GE116.out) | exact HB.out)) hb); clear BK113; clear BK114; clear BK115; clear BK116; clear HB; have HO119 := n0_; have BK113 := n1_; have BK114 := n2_; have BK115 := n3_; have BK116 := n4_; have HB := n5_; clear n0_ n1_ n2_ n3_ n4_ n5_; (try clear hb); (try clear hb2); (try clear hk); (try clear hi); (try clear ho0); obtain ⟨Ao17, co17, eo17⟩ := Kd.S_slice HO119.out; subst eo17))
 go_loopg [3, 19] k (fun kq v3 v19 w' => ∃ (x3_1 : Int) (x19_1 : Int) (x116000_1 : Int) (x116001_1 : Int) (x116002_1 : Int) (x116003_1 : Int) (x116004_1 : Int) (x116005_1 : Int) (x116006_1 : Int), v3 = .int .i64 x3_1 ∧ v19 = .int .i64 x19_1 ∧ Aside0 (index_Attrs.l0 kq x3_1 t117 (t117.length : Int) x19_1 x116000_1 x116001_1 x116002_1 x116003_1 x116004_1 x116005_1 x116006_1 = some (r1, r2, r3, r4, r5, r6, r7, r8)) ∧ Aside0 (kq ≤ k) ∧ Aside0 (Kd.S k44 44 w' w.heap.size (fun _ => True) (.slice Ao17 t117.length co17) t117) ∧ Aside0 (w'.heap[gb113]? = some (.cells #[.int .i64 a1_0, .int .i64 a1_1] 24 (0, 0))) ∧ Aside0 (w'.heap[gb114]? = some (.cells #[.int .i64 a2_0, .int .i64 a2_1, .int .i64 a2_2, .int .i64 a2_3, .int .i64 a2_4, .int .i64 a2_5, (.slice A2_6 l2_6.length c2_6), (.slice A2_7 l2_7.length c2_7), .bool a2_8] 32 (0, 0))) ∧ Aside0 (w'.heap[gb115]? = some (.cells #[.int .i64 x116000_1, .int .i64 x116001_1, .int .i64 x116002_1, .int .i64 x116003_1, .int .i64 x116004_1, .int .i64 x116005_1, .int .i64 x116006_1] 42 (0, 0))) ∧ Aside0 (w'.heap[gb116]? = some (.cells #[.int .i64 0, .int .i64 0, .int .i64 0, .int .i64 0, .int .i64 0, .int .i64 0, .int .i64 0] 42 (0, 0))) ∧ Aside0 (Below w.heap.size w w'))
 case atStart => exact ⟨(a3), (0), (a4_0), (a4_1), (a4_2), (a4_3), (a4_4), (a4_5), (a4_6), (by first | rfl | (simp; done) | (simp [*]; done)), (by first | rfl | (simp; done) | (simp [*]; done)), H', ⟨Nat.le_refl _⟩, ⟨by (with_reducible repeat (first | apply Kd.S_alloc | apply Kd.S_drewN | apply Kd.S_drew)); exact HO119.out⟩, ⟨by (with_reducible repeat (first | refine blk_drewN ?_ _ | refine blk_drew ?_ | refine blk_alloc ?_ _)); exact BK113.out⟩, ⟨by (with_reducible repeat (first | refine blk_drewN ?_ _ | refine blk_drew ?_ | refine blk_alloc ?_ _)); exact BK114.out⟩, ⟨by (with_reducible repeat (first | refine blk_drewN ?_ _ | refine blk_drew ?_ | refine blk_alloc ?_ _)); exact BK115.out⟩, ⟨by (with_reducible repeat (first | refine blk_drewN ?_ _ | refine blk_drew ?_ | refine blk_alloc ?_ _)); exact BK116.out⟩, ⟨by repeat (first | (with_reducible first | exact HB.out | apply below_alloc | apply pw_below_drewN | apply below_drew1 | refine below_set ?_ GE113.out | refine below_set ?_ GE114.out | refine below_set ?_ GE115.out | refine below_set ?_ GE116.out) | exact HB.out)⟩⟩
 case round =>
  clear H'
  try clear c1
  try clear c2
  try clear p2
  try clear c11
  try clear c12
  try clear c13
  try clear c15
  try clear hcz14_0 hcz14_1
  try clear hfz14_0 hfz14_1
  (try clear BK113); (try clear BK114); (try clear BK115); (try clear BK116)
  obtain ⟨x3_1, x19_1, x116000_1, x116001_1, x116002_1, x116003_1, x116004_1, x116005_1, x116006_1, rfl, rfl, HA, HK1, HO_17, BK113, BK114, BK115, BK116, HB⟩ := hrel
  cases gk with
  | zero => exact absurd HA.out (by simp [index_Attrs.l0])
  | succ k1 =>
   have H := HA.out
   clear HA
   simp only [index_Attrs.l0] at H
   by_cases c18 : x19_1 < (t117.length : Int)
   · rw [if_pos c18] at H
     have c18b0 : decide (x19_1 < (t117.length : Int)) = true := decide_eq_true c18
     clear c18
     by_cases c19 : 0 ≤ x19_1
     · rw [if_pos c19] at H
       have c19b0 : decide (0 ≤ x19_1) = true := decide_eq_true c19
       clear c19
       by_cases c20 : x19_1 < (t117.length : Int)
       · rw [if_pos c20] at H
         have c20b0 : decide (x19_1 < (t117.length : Int)) = true := decide_eq_true c20
         clear c20
         replace H := Option.bind_eq_some_iff.mp H
         obtain ⟨⟨t122, t123, t124, t125, t126, t127, t128⟩, A210, H⟩ := H
         replace H : (index_Attrs.l0 k1 (mx x3_1 (wrap64 ((mn ((rd_T44 t117 x19_1).f5) 1099511627775) + 1))) t117 (t117.length : Int) (wrap64 (x19_1 + 1)) t122 t123 t124 t125 t126 t127 t128) = some (r1, r2, r3, r4, r5, r6, r7, r8) := H
         have A21 := Aside0.mk A210
         clear A210
         obtain ⟨ji22, hji22⟩ : ∃ j_ : Int, (mn ((rd_T44 t117 x19_1).f5) 1099511627775) = j_ := ⟨_, rfl⟩
         replace H : (index_Attrs.l0 k1 (mx x3_1 (wrap64 ((ji22) + 1))) t117 (t117.length : Int) (wrap64 (x19_1 + 1)) t122 t123 t124 t125 t126 t127 t128) = some (r1, r2, r3, r4, r5, r6, r7, r8) := by first | (rw [hji22] at H; exact H) | (simp only [hji22] at H ⊢; exact H)
         (try rw [hji22] at A21)
         have hji22_ : (if 1099511627775 < ((rd_T44 t117 x19_1).f5) then 1099511627775 else ((rd_T44 t117 x19_1).f5)) = ji22 := hji22
         obtain ⟨ji23, hji23⟩ : ∃ j_ : Int, (mx x3_1 (wrap64 ((ji22) + 1))) = j_ := ⟨_, rfl⟩
         replace H : (index_Attrs.l0 k1 ji23 t117 (t117.length : Int) (wrap64 (x19_1 + 1)) t122 t123 t124 t125 t126 t127 t128) = some (r1, r2, r3, r4, r5, r6, r7, r8) := by first | (rw [hji23] at H; exact H) | (simp only [hji23] at H ⊢; exact H)
         (try rw [hji23] at A21)
         have hji23_ : (if x3_1 < (wrap64 ((ji22) + 1)) then (wrap64 ((ji22) + 1)) else x3_1) = ji23 := hji23
         have H' := Aside0.mk H
         clear H
         have p120 : 0 ≤ (x19_1 : Int) := of_decide_eq_true (by first | (with_reducible assumption) | assumption)
         have q120 : x19_1 < (t117.length : Int) := of_decide_eq_true (by first | (with_reducible assumption) | assumption)
         obtain ⟨ad120, A120_13, c120_13, A120_14, c120_14, e120, hx120_0, hx120_1, hx120_2, hx120_3, hx120_4, hx120_5, hx120_6, hx120_7, hx120_8, hx120_9, hx120_10, hx120_11, hx120_12, hx120_13, hx120_14, hx120_15, hx120_16, hx120_17, hx120_18, hx120_19, hx120_20, hx120_21, hx120_22, hx120_23, hx120_24, hl120_13, hi120_13, hl120_14, hi120_14⟩ := at_T44 (Kd.S_reads' HO_17.out).2.2 x19_1 p120 q120
         cases e120
         obtain ⟨ce120, hce120, hMe120, hcc120⟩ := Kd.S_get HO_17.out z44 x19_1 p120 (by first | exact q120 | exact of_decide_eq_true (by first | (with_reducible assumption) | assumption) | (have e_ := (Kd.S_reads' HO_17.out).1; omega))
         obtain ⟨ve120_13, ve120_14, rfl, ge120_13, ge120_14⟩ := k44_openM hMe120
         have hv120_13 := hcc120 13 _ rfl
         rw [add_field _ _ 13 (by omega)] at hv120_13
         replace hv120_13 := Option.some.inj (hv120_13.symm.trans hx120_13)
         rw [hv120_13] at ge120_13
         have HL120_13 := Aside0.mk (show Kd.R k61 61 _ _ _ _ ((rd_T44 t117 x19_1).f4.f4) from ge120_13)
         clear hv120_13 ge120_13
         have hv120_14 := hcc120 14 _ rfl
         rw [add_field _ _ 14 (by omega)] at hv120_14
         replace hv120_14 := Option.some.inj (hv120_14.symm.trans hx120_14)
         rw [hv120_14] at ge120_14
         have HL120_14 := Aside0.mk (show Kd.R k46 46 _ _ _ _ ((rd_T44 t117 x19_1).f4.f5) from ge120_14)
         clear hv120_14 ge120_14
         clear hcc120 hce120
         have HR120_13 := Aside0.mk hi120_13
         have HC120_13 := Aside0.mk hl120_13
         clear hi120_13 hl120_13
         have HR120_14 := Aside0.mk hi120_14
         have HC120_14 := Aside0.mk hl120_14
         clear hi120_14 hl120_14
         replace p120 := eq_true p120
         replace q120 := eq_true q120
         go_wp2_with (first | ((with_reducible refine gate_dst (N := 22) rfl ?_); refine cells_load_event ?lg (N := 22) ?ld (t := 44) (x := ?lxxz24) ?lo (p := ?lppz24) ?lx (v := .int .i64 ((rd_T44 t117 x19_1).f0.f0)) (cs := [.int .i64 ((rd_T44 t117 x19_1).f0.f1), .int .i64 ((rd_T44 t117 x19_1).f1), .int .i64 ((rd_T44 t117 x19_1).f2.f0), .int .i64 ((rd_T44 t117 x19_1).f2.f1), .int .i64 ((rd_T44 t117 x19_1).f3.f0), .int .i64 ((rd_T44 t117 x19_1).f3.f1), .int .i64 ((rd_T44 t117 x19_1).f4.f0), .int .i64 ((rd_T44 t117 x19_1).f4.f1.f0), .int .i64 ((rd_T44 t117 x19_1).f4.f1.f1), .int .i64 ((rd_T44 t117 x19_1).f4.f2.f0), .int .i64 ((rd_T44 t117 x19_1).f4.f2.f1), .int .i64 ((rd_T44 t117 x19_1).f4.f3), .slice A120_13 ((rd_T44 t117 x19_1).f4.f4).length c120_13, .slice A120_14 ((rd_T44 t117 x19_1).f4.f5).length c120_14, .bool ((rd_T44 t117 x19_1).f4.f6), .int .i64 ((rd_T44 t117 x19_1).f5), .int .i64 ((rd_T44 t117 x19_1).f6.f0), .int .i64 ((rd_T44 t117 x19_1).f6.f1), .int .i64 ((rd_T44 t117 x19_1).f6.f2), .int .i64 ((rd_T44 t117 x19_1).f6.f3), .int .i64 ((rd_T44 t117 x19_1).f6.f4), .int .i64 ((rd_T44 t117 x19_1).f6.f5), .int .i64 ((rd_T44 t117 x19_1).f6.f6), .bool ((rd_T44 t117 x19_1).f7)]) ?lD ?lt ?l0 ?lc ?_; (case lg => rfl); (case ld => rfl); (case lo => rfl); (case lx => first | rfl | (go_simp; done) | (go_simp; rfl)); (case lD => exact ⟨_, Try.underlying44, rfl⟩); (case lt => kernel_rfl); (case l0 => exact hx120_0); (case lc => exact ⟨hx120_1, hx120_2, hx120_3, hx120_4, hx120_5, hx120_6, hx120_7, hx120_8, hx120_9, hx120_10, hx120_11, hx120_12, hx120_13, hx120_14, hx120_15, hx120_16, hx120_17, hx120_18, hx120_19, hx120_20, hx120_21, hx120_22, hx120_23, hx120_24, trivial⟩)) | ((with_reducible refine gate_dst (N := 13) rfl ?_); refine alloc_store_event ?hg1 (N := 13) ?hd1 ?hg2 ?hd2 ?ho2 (cs0 := #[.int .i64 0, .int .i64 0, .int .i64 0, .int .i64 0, .int .i64 0, .int .i64 0, .int .i64 0, .int .i64 0, .int .i64 0, .int .i64 0, .int .i64 0, .int .i64 0, .int .i64 0, .slice none 0 0, .slice none 0 0, .bool false, .int .i64 0, .int .i64 0, .int .i64 0, .int .i64 0, .int .i64 0, .int .i64 0, .int .i64 0, .int .i64 0, .bool false]) (cs := #[.int .i64 ((rd_T44 t117 x19_1).f0.f0), .int .i64 ((rd_T44 t117 x19_1).f0.f1), .int .i64 ((rd_T44 t117 x19_1).f1), .int .i64 ((rd_T44 t117 x19_1).f2.f0), .int .i64 ((rd_T44 t117 x19_1).f2.f1), .int .i64 ((rd_T44 t117 x19_1).f3.f0), .int .i64 ((rd_T44 t117 x19_1).f3.f1), .int .i64 ((rd_T44 t117 x19_1).f4.f0), .int .i64 ((rd_T44 t117 x19_1).f4.f1.f0), .int .i64 ((rd_T44 t117 x19_1).f4.f1.f1), .int .i64 ((rd_T44 t117 x19_1).f4.f2.f0), .int .i64 ((rd_T44 t117 x19_1).f4.f2.f1), .int .i64 ((rd_T44 t117 x19_1).f4.f3), .slice A120_13 ((rd_T44 t117 x19_1).f4.f4).length c120_13, .slice A120_14 ((rd_T44 t117 x19_1).f4.f5).length c120_14, .bool ((rd_T44 t117 x19_1).f4.f6), .int .i64 ((rd_T44 t117 x19_1).f5), .int .i64 ((rd_T44 t117 x19_1).f6.f0), .int .i64 ((rd_T44 t117 x19_1).f6.f1), .int .i64 ((rd_T44 t117 x19_1).f6.f2), .int .i64 ((rd_T44 t117 x19_1).f6.f3), .int .i64 ((rd_T44 t117 x19_1).f6.f4), .int .i64 ((rd_T44 t117 x19_1).f6.f5), .int .i64 ((rd_T44 t117 x19_1).f6.f6), .bool ((rd_T44 t117 x19_1).f7)]) (t := 44) (x := ?xxw25) ?hr ?hp ?hx ?hs ?h1 ?ht ?_; (case hg1 => rfl); (case hd1 => rfl); (case hg2 => rfl); (case hd2 => rfl); (case ho2 => rfl); (case hr => first | (go_simp; done) | (go_simp; rfl)); (case hp => rfl); (case hx => rfl); (case hs => rfl); (case h1 => rfl); (case ht => kernel_rfl); intro gb121 hg w25 hbox hb; have n0_ := Aside0.mk (Kd.S_below (Kd.S_elderB (ks_ HO_17.out) gb121 (Nat.le_of_eq hg.symm)) hb); have n1_ := Aside0.mk (Kd.R_below (kr_ HL120_13.out) hb); have n2_ := Aside0.mk (Kd.R_below (kr_ HL120_14.out) hb); have n3_ := Aside0.mk (blk_below (kb_ BK113.out) hb); have n4_ := Aside0.mk (blk_below (kb_ BK114.out) hb); have n5_ := Aside0.mk (blk_below (kb_ BK115.out) hb); have n6_ := Aside0.mk (blk_below (kb_ BK116.out) hb); have n7_ := Aside0.mk (Kd.C_below (by repeat (first | (with_reducible exact HR120_13.out) | (with_reducible refine Kd.C_alloc ?_ _) | (with_reducible refine Kd.C_drewN ?_ _) | (with_reducible refine Kd.C_drew ?_) | exact HR120_13.out)) hb); have n8_ := Aside0.mk (Kd.C_below (by repeat (first | (with_reducible exact HR120_14.out) | (with_reducible refine Kd.C_alloc ?_ _) | (with_reducible refine Kd.C_drewN ?_ _) | (with_reducible refine Kd.C_drew ?_) | exact HR120_14.out)) hb); have n9_ := Aside0.mk (below_step (by repeat (first | (with_reducible first | exact HB.out | apply below_alloc | apply pw_below_drewN | apply below_drew1 | refine below_set ?_ GE113.out | refine below_set ?_ GE114.out | refine below_set ?_ GE115.out | refine below_set ?_ GE116.out) | exact HB.out)) hb); have n10_ := Aside0.mk (hbox); have n11_ := Aside0.mk ((by rw [hg]; exact (below_size (by repeat (first | (with_reducible first | exact HB.out | apply below_alloc | apply pw_below_drewN | apply below_drew1 | refine below_set ?_ GE113.out | refine below_set ?_ GE114.out | refine below_set ?_ GE115.out | refine below_set ?_ GE116.out) | exact HB.out))) : w.heap.size ≤ gb121)); have n12_ := Aside0.mk ((by rw [hg]; exact (below_size (by repeat (first | (with_reducible first | exact HB.out | apply below_alloc | apply pw_below_drewN | apply below_drew1 | refine below_set ?_ GE113.out | refine below_set ?_ GE114.out | refine below_set ?_ GE115.out | refine below_set ?_ GE116.out) | exact HB.out))) : w.heap.size ≤ gb121)); have n13_ := Aside0.mk ((by rw [hg]; exact Nat.ne_of_lt (blk_lt (kb_ BK113.out)) : gb113 ≠ gb121)); have n14_ := Aside0.mk ((by rw [hg]; exact Nat.ne_of_gt (blk_lt (kb_ BK113.out)) : gb121 ≠ gb113)); have n15_ := Aside0.mk ((by rw [hg]; exact Nat.ne_of_lt (blk_lt (kb_ BK114.out)) : gb114 ≠ gb121)); have n16_ := Aside0.mk ((by rw [hg]; exact Nat.ne_of_gt (blk_lt (kb_ BK114.out)) : gb121 ≠ gb114)); have n17_ := Aside0.mk ((by rw [hg]; exact Nat.ne_of_lt (blk_lt (kb_ BK115.out)) : gb115 ≠ gb121)); have n18_ := Aside0.mk ((by rw [hg]; exact Nat.ne_of_gt (blk_lt (kb_ BK115.out)) : gb121 ≠ gb115)); have n19_ := Aside0.mk ((by rw [hg]; exact Nat.ne_of_lt (blk_lt (kb_ BK116.out)) : gb116 ≠ gb121)); have n20_ := Aside0.mk ((by rw [hg]; exact Nat.ne_of_gt (blk_lt (kb_ BK116.out)) : gb121 ≠ gb116)); clear HO_17; clear HL120_13; clear HL120_14; clear BK113; clear BK114; clear BK115; clear BK116; clear HR120_13; clear HR120_14; clear HB; have HO_17 := n0_; have HL120_13 := n1_; have HL120_14 := n2_; have BK113 := n3_; have BK114 := n4_; have BK115 := n5_; have BK116 := n6_; have HR120_13 := n7_; have HR120_14 := n8_; have HB := n9_; have BK121 := n10_; have GW121 := n11_; have GE121 := n12_; have NB113_121 := n13_; have NB121_113 := n14_; have NB114_121 := n15_; have NB121_114 := n16_; have NB115_121 := n17_; have NB121_115 := n18_; have NB116_121 := n19_; have NB121_116 := n20_; clear n0_ n1_ n2_ n3_ n4_ n5_ n6_ n7_ n8_ n9_ n10_ n11_ n12_ n13_ n14_ n15_ n16_ n17_ n18_ n19_ n20_; clear hb hbox hg; have hnb27 := NB121_113.out; have hnc27 := NB113_121.out; have hnb28 := NB121_114.out; have hnc28 := NB114_121.out; have hnb29 := NB121_115.out; have hnc29 := NB115_121.out; have hnb30 := NB121_116.out; have hnc30 := NB116_121.out; refine blk25_ BK121.out fun hcz31_0 hcz31_1 hcz31_2 hcz31_3 hcz31_4 hcz31_5 hcz31_6 hcz31_7 hcz31_8 hcz31_9 hcz31_10 hcz31_11 hcz31_12 hcz31_13 hcz31_14 hcz31_15 hcz31_16 hcz31_17 hcz31_18 hcz31_19 hcz31_20 hcz31_21 hcz31_22 hcz31_23 hcz31_24 hfz31_0 hfz31_1 hfz31_2 hfz31_3 hfz31_4 hfz31_5 hfz31_6 hfz31_7 hfz31_8 hfz31_9 hfz31_10 hfz31_11 hfz31_12 hfz31_13 hfz31_14 hfz31_15 hfz31_16 hfz31_17 hfz31_18 hfz31_19 hfz31_20 hfz31_21 hfz31_22 hfz31_23 hfz31_24 => ?_) | ((with_reducible refine gate_dst (N := 23) rfl ?_); (try (refine gate_guard (by rfl) ?_; dsimp only)); refine blk_load_event ?lg (N := 23) ?ld (t := 42) (x := ?lxxz26) ?lo (g := gb115) ?lx (cs := _) BK115.out ?lD ?lt ?_; (case lg => rfl); (case ld => rfl); (case lo => rfl); (case lx => first | rfl | (go_simp; done) | (go_simp; rfl)); (case lD => exact ⟨_, Try.underlying42, rfl⟩); (case lt => kernel_rfl)) | ((with_reducible refine gate_callee (f := 38) rfl ?_); refine goesL_ (some 26) rfl rfl Try.func38 (by kernel_rfl) rfl #[.agg #[.int .i64 x116000_1, .int .i64 x116001_1, .int .i64 x116002_1, .int .i64 x116003_1, .int .i64 x116004_1, .int .i64 x116005_1, .int .i64 x116006_1], .agg #[.int .i64 ((rd_T44 t117 x19_1).f0.f0), .int .i64 ((rd_T44 t117 x19_1).f0.f1)]] rfl (by (try simp only [List.map_toArray, List.map_cons, List.map_nil]); first | done | rfl | (simp only [List.length_drop, List.length_take]; rfl)) ?_; (with_reducible refine (deps_With.calls x116000_1 x116001_1 x116002_1 x116003_1 x116004_1 x116005_1 x116006_1 ((rd_T44 t117 x19_1).f0.f0) ((rd_T44 t117 x19_1).f0.f1) t122 t123 t124 t125 t126 t127 t128 _ A21.out).mono ?_); rintro e w32 ⟨rfl, hb⟩; refine ⟨_, rfl, ?_⟩; have n0_ := Aside0.mk (Kd.S_below (ks_ HO_17.out) hb); have n1_ := Aside0.mk (Kd.R_below (kr_ HL120_13.out) hb); have n2_ := Aside0.mk (Kd.R_below (kr_ HL120_14.out) hb); have n3_ := Aside0.mk (blk_below (kb_ BK113.out) hb); have n4_ := Aside0.mk (blk_below (kb_ BK114.out) hb); have n5_ := Aside0.mk (blk_below (kb_ BK115.out) hb); have n6_ := Aside0.mk (blk_below (kb_ BK116.out) hb); have n7_ := Aside0.mk (Kd.C_below (by repeat (first | (with_reducible exact HR120_13.out) | (with_reducible refine Kd.C_alloc ?_ _) | (with_reducible refine Kd.C_drewN ?_ _) | (with_reducible refine Kd.C_drew ?_) | exact HR120_13.out)) hb); have n8_ := Aside0.mk (Kd.C_below (by repeat (first | (with_reducible exact HR120_14.out) | (with_reducible refine Kd.C_alloc ?_ _) | (with_reducible refine Kd.C_drewN ?_ _) | (with_reducible refine Kd.C_drew ?_) | exact HR120_14.out)) hb); have n9_ := Aside0.mk (blk_below (kb_ BK121.out) hb); have n10_ := Aside0.mk (below_step (by repeat (first | (with_reducible first | exact HB.out | apply below_alloc | apply pw_below_drewN | apply below_drew1 | refine below_set ?_ GE113.out | refine below_set ?_ GE114.out | refine below_set ?_ GE115.out | refine below_set ?_ GE116.out | refine below_set ?_ GE121.out) | exact HB.out)) hb); clear HO_17; clear HL120_13; clear HL120_14; clear BK113; clear BK114; clear BK115; clear BK116; clear HR120_13; clear HR120_14; clear BK121; clear HB; have HO_17 := n0_; have HL120_13 := n1_; have HL120_14 := n2_; have BK113 := n3_; have BK114 := n4_; have BK115 := n5_; have BK116 := n6_; have HR120_13 := n7_; have HR120_14 := n8_; have BK121 := n9_; have HB := n10_; clear n0_ n1_ n2_ n3_ n4_ n5_ n6_ n7_ n8_ n9_ n10_; (try clear hb); (try clear hb2); (try clear hk); (try clear hi); have hnb33 := NB115_113.out; have hnc33 := NB113_115.out; have hnb34 := NB115_114.out; have hnc34 := NB114_115.out; have hnb35 := NB115_116.out; have hnc35 := NB116_115.out; refine blk7_ BK115.out fun hcz36_0 hcz36_1 hcz36_2 hcz36_3 hcz36_4 hcz36_5 hcz36_6 hfz36_0 hfz36_1 hfz36_2 hfz36_3 hfz36_4 hfz36_5 hfz36_6 => ?_) | ((with_reducible refine gate_store (t := 42) (p := 9) rfl ?_); refine store_event (t := 42) (p := 9) (v := ?vo_w37) (w1 := (((((((w32.setCell ⟨gb115, 0, none⟩ (.int .i64 t122)).setCell ⟨gb115, 1, none⟩ (.int .i64 t123)).setCell ⟨gb115, 2, none⟩ (.int .i64 t124)).setCell ⟨gb115, 3, none⟩ (.int .i64 t125)).setCell ⟨gb115, 4, none⟩ (.int .i64 t126)).setCell ⟨gb115, 5, none⟩ (.int .i64 t127)).setCell ⟨gb115, 6, none⟩ (.int .i64 t128))) ?hg ?ho ?hn ?hr ?_; (case ho => rfl); (case hg => rfl); (case hn => rfl); (case hr => first | (go_simp; done) | (go_simp; rfl)); intro w37 hw; have n0_ : Aside0 (Kd.S k44 44 w37 w.heap.size (fun k_ => k_ ≠ gb121) (.slice (some ad120) t117.length co17) t117) := ⟨(by rw [hw]; exact (by (with_reducible repeat (first | apply Kd.S_alloc | apply Kd.S_drewN | apply Kd.S_drew)); exact Kd.S_mono (Kd.S_far (p := ⟨gb115, 6, none⟩) (Kd.S_far (p := ⟨gb115, 5, none⟩) (Kd.S_far (p := ⟨gb115, 4, none⟩) (Kd.S_far (p := ⟨gb115, 3, none⟩) (Kd.S_far (p := ⟨gb115, 2, none⟩) (Kd.S_far (p := ⟨gb115, 1, none⟩) (Kd.S_far (p := ⟨gb115, 0, none⟩) (Kd.S_types HO_17.out BK115.out (by decide)) (fun _ hk => hk.2) (.int .i64 t122)) (fun _ hk => hk.2) (.int .i64 t123)) (fun _ hk => hk.2) (.int .i64 t124)) (fun _ hk => hk.2) (.int .i64 t125)) (fun _ hk => hk.2) (.int .i64 t126)) (fun _ hk => hk.2) (.int .i64 t127)) (fun _ hk => hk.2) (.int .i64 t128)) (fun _ hk => hk.1.2)))⟩; have n1_ : Aside0 (Kd.R k61 61 w37 w.heap.size (fun k_ => some k_ ≠ (.slice (some ad120) t117.length co17 : Value).ownBlock) (.slice A120_13 ((rd_T44 t117 x19_1).f4.f4).length c120_13) ((rd_T44 t117 x19_1).f4.f4)) := ⟨(by rw [hw]; exact (by (with_reducible repeat (first | apply Kd.R_alloc | apply Kd.R_drewN | apply Kd.R_drew)); exact Kd.R_mono (Kd.R_far (p := ⟨gb115, 6, none⟩) (Kd.R_far (p := ⟨gb115, 5, none⟩) (Kd.R_far (p := ⟨gb115, 4, none⟩) (Kd.R_far (p := ⟨gb115, 3, none⟩) (Kd.R_far (p := ⟨gb115, 2, none⟩) (Kd.R_far (p := ⟨gb115, 1, none⟩) (Kd.R_far (p := ⟨gb115, 0, none⟩) (Kd.R_types HL120_13.out BK115.out (by decide)) (fun _ hk => hk.2) (.int .i64 t122)) (fun _ hk => hk.2) (.int .i64 t123)) (fun _ hk => hk.2) (.int .i64 t124)) (fun _ hk => hk.2) (.int .i64 t125)) (fun _ hk => hk.2) (.int .i64 t126)) (fun _ hk => hk.2) (.int .i64 t127)) (fun _ hk => hk.2) (.int .i64 t128)) (fun _ hk => hk.1.2)))⟩; have n2_ : Aside0 (Kd.R k46 46 w37 w.heap.size (fun k_ => some k_ ≠ (.slice (some ad120) t117.length co17 : Value).ownBlock) (.slice A120_14 ((rd_T44 t117 x19_1).f4.f5).length c120_14) ((rd_T44 t117 x19_1).f4.f5)) := ⟨(by rw [hw]; exact (by (with_reducible repeat (first | apply Kd.R_alloc | apply Kd.R_drewN | apply Kd.R_drew)); exact Kd.R_mono (Kd.R_far (p := ⟨gb115, 6, none⟩) (Kd.R_far (p := ⟨gb115, 5, none⟩) (Kd.R_far (p := ⟨gb115, 4, none⟩) (Kd.R_far (p := ⟨gb115, 3, none⟩) (Kd.R_far (p := ⟨gb115, 2, none⟩) (Kd.R_far (p := ⟨gb115, 1, none⟩) (Kd.R_far (p := ⟨gb115, 0, none⟩) (Kd.R_types HL120_14.out BK115.out (by decide)) (fun _ hk => hk.2) (.int .i64 t122)) (fun _ hk => hk.2) (.int .i64 t123)) (fun _ hk => hk.2) (.int .i64 t124)) (fun _ hk => hk.2) (.int .i64 t125)) (fun _ hk => hk.2) (.int .i64 t126)) (fun _ hk => hk.2) (.int .i64 t127)) (fun _ hk => hk.2) (.int .i64 t128)) (fun _ hk => hk.1.2)))⟩; have n3_ : Aside0 (w37.heap[gb113]? = some (.cells #[.int .i64 a1_0, .int .i64 a1_1] 24 (0, 0))) := ⟨(by rw [hw]; exact (by (with_reducible repeat (first | refine blk_drewN ?_ _ | refine blk_drew ?_ | refine blk_alloc ?_ _)); refine blk_far ?_ NB113_115.out _; (with_reducible repeat (first | refine blk_drewN ?_ _ | refine blk_drew ?_ | refine blk_alloc ?_ _)); refine blk_far ?_ NB113_115.out _; (with_reducible repeat (first | refine blk_drewN ?_ _ | refine blk_drew ?_ | refine blk_alloc ?_ _)); refine blk_far ?_ NB113_115.out _; (with_reducible repeat (first | refine blk_drewN ?_ _ | refine blk_drew ?_ | refine blk_alloc ?_ _)); refine blk_far ?_ NB113_115.out _; (with_reducible repeat (first | refine blk_drewN ?_ _ | refine blk_drew ?_ | refine blk_alloc ?_ _)); refine blk_far ?_ NB113_115.out _; (with_reducible repeat (first | refine blk_drewN ?_ _ | refine blk_drew ?_ | refine blk_alloc ?_ _)); refine blk_far ?_ NB113_115.out _; (with_reducible repeat (first | refine blk_drewN ?_ _ | refine blk_drew ?_ | refine blk_alloc ?_ _)); refine blk_far ?_ NB113_115.out _; (with_reducible repeat (first | refine blk_drewN ?_ _ | refine blk_drew ?_ | refine blk_alloc ?_ _)); exact BK113.out))⟩; have n4_ : Aside0 (w37.heap[gb114]? = some (.cells #[.int .i64 a2_0, .int .i64 a2_1, .int .i64 a2_2, .int .i64 a2_3, .int .i64 a2_4, .int .i64 a2_5, .slice A2_6 l2_6.length c2_6, .slice A2_7 l2_7.length c2_7, .bool a2_8] 32 (0, 0))) := ⟨(by rw [hw]; exact (by (with_reducible repeat (first | refine blk_drewN ?_ _ | refine blk_drew ?_ | refine blk_alloc ?_ _)); refine blk_far ?_ NB114_115.out _; (with_reducible repeat (first | refine blk_drewN ?_ _ | refine blk_drew ?_ | refine blk_alloc ?_ _)); refine blk_far ?_ NB114_115.out _; (with_reducible repeat (first | refine blk_drewN ?_ _ | refine blk_drew ?_ | refine blk_alloc ?_ _)); refine blk_far ?_ NB114_115.out _; (with_reducible repeat (first | refine blk_drewN ?_ _ | refine blk_drew ?_ | refine blk_alloc ?_ _)); refine blk_far ?_ NB114_115.out _; (with_reducible repeat (first | refine blk_drewN ?_ _ | refine blk_drew ?_ | refine blk_alloc ?_ _)); refine blk_far ?_ NB114_115.out _; (with_reducible repeat (first | refine blk_drewN ?_ _ | refine blk_drew ?_ | refine blk_alloc ?_ _)); refine blk_far ?_ NB114_115.out _; (with_reducible repeat (first | refine blk_drewN ?_ _ | refine blk_drew ?_ | refine blk_alloc ?_ _)); refine blk_far ?_ NB114_115.out _; (with_reducible repeat (first | refine blk_drewN ?_ _ | refine blk_drew ?_ | refine blk_alloc ?_ _)); exact BK114.out))⟩; have n5_ : Aside0 (w37.heap[gb115]? = some (.cells #[.int .i64 t122, .int .i64 t123, .int .i64 t124, .int .i64 t125, .int .i64 t126, .int .i64 t127, .int .i64 t128] 42 (0, 0))) := ⟨(by rw [hw]; exact (by (with_reducible repeat (first | refine blk_drewN ?_ _ | refine blk_drew ?_ | refine blk_alloc ?_ _)); refine blk_put (cs := #[.int .i64 t122, .int .i64 t123, .int .i64 t124, .int .i64 t125, .int .i64 t126, .int .i64 t127, .int .i64 x116006_1]) ?_ 6 _ rfl; (with_reducible repeat (first | refine blk_drewN ?_ _ | refine blk_drew ?_ | refine blk_alloc ?_ _)); refine blk_put (cs := #[.int .i64 t122, .int .i64 t123, .int .i64 t124, .int .i64 t125, .int .i64 t126, .int .i64 x116005_1, .int .i64 x116006_1]) ?_ 5 _ rfl; (with_reducible repeat (first | refine blk_drewN ?_ _ | refine blk_drew ?_ | refine blk_alloc ?_ _)); refine blk_put (cs := #[.int .i64 t122, .int .i64 t123, .int .i64 t124, .int .i64 t125, .int .i64 x116004_1, .int .i64 x116005_1, .int .i64 x116006_1]) ?_ 4 _ rfl; (with_reducible repeat (first | refine blk_drewN ?_ _ | refine blk_drew ?_ | refine blk_alloc ?_ _)); refine blk_put (cs := #[.int .i64 t122, .int .i64 t123, .int .i64 t124, .int .i64 x116003_1, .int .i64 x116004_1, .int .i64 x116005_1, .int .i64 x116006_1]) ?_ 3 _ rfl; (with_reducible repeat (first | refine blk_drewN ?_ _ | refine blk_drew ?_ | refine blk_alloc ?_ _)); refine blk_put (cs := #[.int .i64 t122, .int .i64 t123, .int .i64 x116002_1, .int .i64 x116003_1, .int .i64 x116004_1, .int .i64 x116005_1, .int .i64 x116006_1]) ?_ 2 _ rfl; (with_reducible repeat (first | refine blk_drewN ?_ _ | refine blk_drew ?_ | refine blk_alloc ?_ _)); refine blk_put (cs := #[.int .i64 t122, .int .i64 x116001_1, .int .i64 x116002_1, .int .i64 x116003_1, .int .i64 x116004_1, .int .i64 x116005_1, .int .i64 x116006_1]) ?_ 1 _ rfl; (with_reducible repeat (first | refine blk_drewN ?_ _ | refine blk_drew ?_ | refine blk_alloc ?_ _)); refine blk_put (cs := #[.int .i64 x116000_1, .int .i64 x116001_1, .int .i64 x116002_1, .int .i64 x116003_1, .int .i64 x116004_1, .int .i64 x116005_1, .int .i64 x116006_1]) ?_ 0 _ rfl; (with_reducible repeat (first | refine blk_drewN ?_ _ | refine blk_drew ?_ | refine blk_alloc ?_ _)); exact BK115.out))⟩; have n6_ : Aside0 (w37.heap[gb116]? = some (.cells #[.int .i64 0, .int .i64 0, .int .i64 0, .int .i64 0, .int .i64 0, .int .i64 0, .int .i64 0] 42 (0, 0))) := ⟨(by rw [hw]; exact (by (with_reducible repeat (first | refine blk_drewN ?_ _ | refine blk_drew ?_ | refine blk_alloc ?_ _)); refine blk_far ?_ NB116_115.out _; (with_reducible repeat (first | refine blk_drewN ?_ _ | refine blk_drew ?_ | refine blk_alloc ?_ _)); refine blk_far ?_ NB116_115.out _; (with_reducible repeat (first | refine blk_drewN ?_ _ | refine blk_drew ?_ | refine blk_alloc ?_ _)); refine blk_far ?_ NB116_115.out _; (with_reducible repeat (first | refine blk_drewN ?_ _ | refine blk_drew ?_ | refine blk_alloc ?_ _)); refine blk_far ?_ NB116_115.out _; (with_reducible repeat (first | refine blk_drewN ?_ _ | refine blk_drew ?_ | refine blk_alloc ?_ _)); refine blk_far ?_ NB116_115.out _; (with_reducible repeat (first | refine blk_drewN ?_ _ | refine blk_drew ?_ | refine blk_alloc ?_ _)); refine blk_far ?_ NB116_115.out _; (with_reducible repeat (first | refine blk_drewN ?_ _ | refine blk_drew ?_ | refine blk_alloc ?_ _)); refine blk_far ?_ NB116_115.out _; (with_reducible repeat (first | refine blk_drewN ?_ _ | refine blk_drew ?_ | refine blk_alloc ?_ _)); exact BK116.out))⟩; have n7_ : Aside0 (w37.heap[gb121]? = some (.cells #[.int .i64 ((rd_T44 t117 x19_1).f0.f0), .int .i64 ((rd_T44 t117 x19_1).f0.f1), .int .i64 ((rd_T44 t117 x19_1).f1), .int .i64 ((rd_T44 t117 x19_1).f2.f0), .int .i64 ((rd_T44 t117 x19_1).f2.f1), .int .i64 ((rd_T44 t117 x19_1).f3.f0), .int .i64 ((rd_T44 t117 x19_1).f3.f1), .int .i64 ((rd_T44 t117 x19_1).f4.f0), .int .i64 ((rd_T44 t117 x19_1).f4.f1.f0), .int .i64 ((rd_T44 t117 x19_1).f4.f1.f1), .int .i64 ((rd_T44 t117 x19_1).f4.f2.f0), .int .i64 ((rd_T44 t117 x19_1).f4.f2.f1), .int .i64 ((rd_T44 t117 x19_1).f4.f3), .slice A120_13 ((rd_T44 t117 x19_1).f4.f4).length c120_13, .slice A120_14 ((rd_T44 t117 x19_1).f4.f5).length c120_14, .bool ((rd_T44 t117 x19_1).f4.f6), .int .i64 ((rd_T44 t117 x19_1).f5), .int .i64 ((rd_T44 t117 x19_1).f6.f0), .int .i64 ((rd_T44 t117 x19_1).f6.f1), .int .i64 ((rd_T44 t117 x19_1).f6.f2), .int .i64 ((rd_T44 t117 x19_1).f6.f3), .int .i64 ((rd_T44 t117 x19_1).f6.f4), .int .i64 ((rd_T44 t117 x19_1).f6.f5), .int .i64 ((rd_T44 t117 x19_1).f6.f6), .bool ((rd_T44 t117 x19_1).f7)] 44 (0, 0))) := ⟨(by rw [hw]; exact (by (with_reducible repeat (first | refine blk_drewN ?_ _ | refine blk_drew ?_ | refine blk_alloc ?_ _)); refine blk_far ?_ NB121_115.out _; (with_reducible repeat (first | refine blk_drewN ?_ _ | refine blk_drew ?_ | refine blk_alloc ?_ _)); refine blk_far ?_ NB121_115.out _; (with_reducible repeat (first | refine blk_drewN ?_ _ | refine blk_drew ?_ | refine blk_alloc ?_ _)); refine blk_far ?_ NB121_115.out _; (with_reducible repeat (first | refine blk_drewN ?_ _ | refine blk_drew ?_ | refine blk_alloc ?_ _)); refine blk_far ?_ NB121_115.out _; (with_reducible repeat (first | refine blk_drewN ?_ _ | refine blk_drew ?_ | refine blk_alloc ?_ _)); refine blk_far ?_ NB121_115.out _; (with_reducible repeat (first | refine blk_drewN ?_ _ | refine blk_drew ?_ | refine blk_alloc ?_ _)); refine blk_far ?_ NB121_115.out _; (with_reducible repeat (first | refine blk_drewN ?_ _ | refine blk_drew ?_ | refine blk_alloc ?_ _)); refine blk_far ?_ NB121_115.out _; (with_reducible repeat (first | refine blk_drewN ?_ _ | refine blk_drew ?_ | refine blk_alloc ?_ _)); exact BK121.out))⟩; have n8_ : Aside0 (Below w.heap.size w w37) := ⟨(by rw [hw]; exact (by repeat (first | (with_reducible first | exact HB.out | apply below_alloc | apply pw_below_drewN | apply below_drew1 | refine below_set ?_ GE113.out | refine below_set ?_ GE114.out | refine below_set ?_ GE115.out | refine below_set ?_ GE116.out | refine below_set ?_ GE121.out) | exact HB.out)))⟩; clear hw; clear HO_17; clear HL120_13; clear HL120_14; clear BK113; clear BK114; clear BK115; clear BK116; clear BK121; clear HB; have HO_17 := n0_; have HL120_13 := n1_; have HL120_14 := n2_; have BK113 := n3_; have BK114 := n4_; have BK115 := n5_; have BK116 := n6_; have BK121 := n7_; have HB := n8_; clear n0_ n1_ n2_ n3_ n4_ n5_ n6_ n7_ n8_; refine blk25_ BK121.out fun hcz38_0 hcz38_1 hcz38_2 hcz38_3 hcz38_4 hcz38_5 hcz38_6 hcz38_7 hcz38_8 hcz38_9 hcz38_10 hcz38_11 hcz38_12 hcz38_13 hcz38_14 hcz38_15 hcz38_16 hcz38_17 hcz38_18 hcz38_19 hcz38_20 hcz38_21 hcz38_22 hcz38_23 hcz38_24 hfz38_0 hfz38_1 hfz38_2 hfz38_3 hfz38_4 hfz38_5 hfz38_6 hfz38_7 hfz38_8 hfz38_9 hfz38_10 hfz38_11 hfz38_12 hfz38_13 hfz38_14 hfz38_15 hfz38_16 hfz38_17 hfz38_18 hfz38_19 hfz38_20 hfz38_21 hfz38_22 hfz38_23 hfz38_24 => ?_))
         go_roundg k1
         case measure => have := HK1.out; omega
         case rel => exact ⟨(ji23), (wrap64 (x19_1 + 1)), (t122), (t123), (t124), (t125), (t126), (t127), (t128), (by first | rfl | (simp; done) | (simp only [← hji23] <;> (first | rfl | (simp; done))) | (simp [*]; done) | (subst_vars; simp only [mx_eq, mn_eq]; done)), (by first | rfl | (simp; done) | (simp [*]; done)), H', ⟨by have := HK1.out; omega⟩, ⟨by (with_reducible repeat (first | apply Kd.S_alloc | apply Kd.S_drewN | apply Kd.S_drew)); exact Kd.S_mono HO_17.out (fun _ hk => trivial)⟩, ⟨by (with_reducible repeat (first | refine blk_drewN ?_ _ | refine blk_drew ?_ | refine blk_alloc ?_ _)); exact BK113.out⟩, ⟨by (with_reducible repeat (first | refine blk_drewN ?_ _ | refine blk_drew ?_ | refine blk_alloc ?_ _)); exact BK114.out⟩, ⟨by (with_reducible repeat (first | refine blk_drewN ?_ _ | refine blk_drew ?_ | refine blk_alloc ?_ _)); exact BK115.out⟩, ⟨by (with_reducible repeat (first | refine blk_drewN ?_ _ | refine blk_drew ?_ | refine blk_alloc ?_ _)); exact BK116.out⟩, ⟨by repeat (first | (with_reducible first | exact HB.out | apply below_alloc | apply pw_below_drewN | apply below_drew1 | refine below_set ?_ GE113.out | refine below_set ?_ GE114.out | refine below_set ?_ GE115.out | refine below_set ?_ GE116.out | refine below_set ?_ GE121.out) | exact HB.out)⟩⟩
       · rw [if_neg c20] at H
         exact absurd H (by simp)
     · rw [if_neg c19] at H
       exact absurd H (by simp)
   · rw [if_neg c18] at H
     have c18b0 : decide (x19_1 < (t117.length : Int)) = false := decide_eq_false c18
     clear c18
     simp only [Option.some.injEq, Prod.mk.injEq] at H
     obtain ⟨rfl, rfl, rfl, rfl, rfl, rfl, rfl, rfl⟩ := H
     try go_wp2
     have n0_ := Aside0.mk (Kd.S_drew HO_17.out)
     have n1_ := Aside0.mk (blk_drew BK113.out)
     have n2_ := Aside0.mk (blk_drew BK114.out)
     have n3_ := Aside0.mk (blk_drew BK115.out)
     have n4_ := Aside0.mk (blk_drew BK116.out)
     have n5_ := Aside0.mk (below_drew1 HB.out)
     clear HO_17
     clear BK113
     clear BK114
     clear BK115
     clear BK116
     clear HB
     have HO_17 := n0_
     have BK113 := n1_
     have BK114 := n2_
     have BK115 := n3_
     have BK116 := n4_
     have HB := n5_
     clear n0_ n1_ n2_ n3_ n4_ n5_
     refine start_ (n := 4) (S := fun w' => w'.cell? ⟨gb115, 0, none⟩ = some (.int .i64 x116000_1) ∧ w'.cell? ⟨gb115, 1, none⟩ = some (.int .i64 x116001_1) ∧ w'.cell? ⟨gb115, 2, none⟩ = some (.int .i64 x116002_1) ∧ w'.cell? ⟨gb115, 3, none⟩ = some (.int .i64 x116003_1) ∧ w'.cell? ⟨gb115, 4, none⟩ = some (.int .i64 x116004_1) ∧ w'.cell? ⟨gb115, 5, none⟩ = some (.int .i64 x116005_1) ∧ w'.cell? ⟨gb115, 6, none⟩ = some (.int .i64 x116006_1)) (ds := []) #[false, false, false, false] (by kernel_rfl) rfl rfl ⟨(blk_cell BK115.out 0).trans rfl, (blk_cell BK115.out 1).trans rfl, (blk_cell BK115.out 2).trans rfl, (blk_cell BK115.out 3).trans rfl, (blk_cell BK115.out 4).trans rfl, (blk_cell BK115.out 5).trans rfl, (blk_cell BK115.out 6).trans rfl⟩ (fun hHeld => ?_)
     generalize wr.drew = w39 at HO_17 BK113 BK114 BK115 BK116 HB hHeld ⊢
     refine pure_ (i := 0) (N := some 34) (v := ?_) (a' := ?_) #[true, false, false, false] rfl rfl (by kernel_rfl) (fun _ _ _ h => h) (Or.inl ⟨by rfl, ?_⟩) ?_ ?_
     rotate_left
     · intro w'
       go_simp
       with_reducible rfl
     rotate_left
     · simp only [Act.put, List.setIfInBounds_toArray, List.set_cons_zero, List.set_cons_succ, i64_w, i32_w]
       rfl
     refine pure_ (i := 2) (N := some 10) (v := ?_) (a' := ?_) #[true, false, true, false] rfl rfl (by kernel_rfl) (fun _ _ _ h => h) (Or.inl ⟨by rfl, ?_⟩) ?_ ?_
     rotate_left
     · intro w'
       go_simp
       with_reducible rfl
     rotate_left
     · simp only [Act.put, List.setIfInBounds_toArray, List.set_cons_zero, List.set_cons_succ, i64_w, i32_w]
       rfl
     refine take_ (i := 1) (N := some 35) (v := ?_) (a' := ?_) #[true, true, true, false] rfl rfl (by kernel_rfl) (fun _ _ _ h => h) (Or.inl ⟨by rfl, ?_⟩) hHeld ?_ ?_
     rotate_left
     · rintro w' ⟨s0, s1, s2, s3, s4, s5, s6⟩
       go_simp
       with_reducible rfl
     rotate_left
     · simp only [Act.put, List.setIfInBounds_toArray, List.set_cons_zero, List.set_cons_succ, i64_w, i32_w]
       rfl
     refine one_ (i := 3) (N := none) #[true, true, true, true] rfl rfl (by kernel_rfl) (by decide) (fun K hK => ?_)
     have hs40 : w39.cell? ⟨gb116, 0, none⟩ = some (.int .i64 0) := (blk_cell BK116.out 0).trans rfl
     have hfs40 := blk_frozen BK116.out 0
     have hns40_0 := NB113_116.out
     have hns40_1 := NB114_116.out
     have hns40_2 := NB115_116.out
     have hms40_0 := NB116_113.out
     have hms40_1 := NB116_114.out
     have hms40_2 := NB116_115.out
     have hs41 : w39.cell? ⟨gb116, 1, none⟩ = some (.int .i64 0) := (blk_cell BK116.out 1).trans rfl
     have hfs41 := blk_frozen BK116.out 1
     have hns41_0 := NB113_116.out
     have hns41_1 := NB114_116.out
     have hns41_2 := NB115_116.out
     have hms41_0 := NB116_113.out
     have hms41_1 := NB116_114.out
     have hms41_2 := NB116_115.out
     have hs42 : w39.cell? ⟨gb116, 2, none⟩ = some (.int .i64 0) := (blk_cell BK116.out 2).trans rfl
     have hfs42 := blk_frozen BK116.out 2
     have hns42_0 := NB113_116.out
     have hns42_1 := NB114_116.out
     have hns42_2 := NB115_116.out
     have hms42_0 := NB116_113.out
     have hms42_1 := NB116_114.out
     have hms42_2 := NB116_115.out
     have hs43 : w39.cell? ⟨gb116, 3, none⟩ = some (.int .i64 0) := (blk_cell BK116.out 3).trans rfl
     have hfs43 := blk_frozen BK116.out 3
     have hns43_0 := NB113_116.out
     have hns43_1 := NB114_116.out
     have hns43_2 := NB115_116.out
     have hms43_0 := NB116_113.out
     have hms43_1 := NB116_114.out
     have hms43_2 := NB116_115.out
     have hs44 : w39.cell? ⟨gb116, 4, none⟩ = some (.int .i64 0) := (blk_cell BK116.out 4).trans rfl
     have hfs44 := blk_frozen BK116.out 4
     have hns44_0 := NB113_116.out
     have hns44_1 := NB114_116.out
     have hns44_2 := NB115_116.out
     have hms44_0 := NB116_113.out
     have hms44_1 := NB116_114.out
     have hms44_2 := NB116_115.out
     have hs45 : w39.cell? ⟨gb116, 5, none⟩ = some (.int .i64 0) := (blk_cell BK116.out 5).trans rfl
     have hfs45 := blk_frozen BK116.out 5
     have hns45_0 := NB113_116.out
     have hns45_1 := NB114_116.out
     have hns45_2 := NB115_116.out
     have hms45_0 := NB116_113.out
     have hms45_1 := NB116_114.out
     have hms45_2 := NB116_115.out
     have hs46 : w39.cell? ⟨gb116, 6, none⟩ = some (.int .i64 0) := (blk_cell BK116.out 6).trans rfl
     have hfs46 := blk_frozen BK116.out 6
     have hns46_0 := NB113_116.out
     have hns46_1 := NB114_116.out
     have hns46_2 := NB115_116.out
     have hms46_0 := NB116_113.out
     have hms46_1 := NB116_114.out
     have hms46_2 := NB116_115.out
     refine skip_ (w1 := ?_) (by rfl) rfl ?_ ?_
     rotate_left
     · go_simp
       rfl
     refine hK.out _ _ ⟨((cell_far (p := ⟨gb116, _, none⟩) NB115_116.out _).trans (((cell_far (p := ⟨gb116, _, none⟩) NB115_116.out _).trans (((cell_far (p := ⟨gb116, _, none⟩) NB115_116.out _).trans (((cell_far (p := ⟨gb116, _, none⟩) NB115_116.out _).trans (((cell_far (p := ⟨gb116, _, none⟩) NB115_116.out _).trans (((cell_far (p := ⟨gb116, _, none⟩) NB115_116.out _).trans (((cell_far (p := ⟨gb116, _, none⟩) NB115_116.out _).trans (hHeld.1)))))))))))))), ((cell_far (p := ⟨gb116, _, none⟩) NB115_116.out _).trans (((cell_far (p := ⟨gb116, _, none⟩) NB115_116.out _).trans (((cell_far (p := ⟨gb116, _, none⟩) NB115_116.out _).trans (((cell_far (p := ⟨gb116, _, none⟩) NB115_116.out _).trans (((cell_far (p := ⟨gb116, _, none⟩) NB115_116.out _).trans (((cell_far (p := ⟨gb116, _, none⟩) NB115_116.out _).trans (((cell_far (p := ⟨gb116, _, none⟩) NB115_116.out _).trans (hHeld.2.1)))))))))))))), ((cell_far (p := ⟨gb116, _, none⟩) NB115_116.out _).trans (((cell_far (p := ⟨gb116, _, none⟩) NB115_116.out _).trans (((cell_far (p := ⟨gb116, _, none⟩) NB115_116.out _).trans (((cell_far (p := ⟨gb116, _, none⟩) NB115_116.out _).trans (((cell_far (p := ⟨gb116, _, none⟩) NB115_116.out _).trans (((cell_far (p := ⟨gb116, _, none⟩) NB115_116.out _).trans (((cell_far (p := ⟨gb116, _, none⟩) NB115_116.out _).trans (hHeld.2.2.1)))))))))))))), ((cell_far (p := ⟨gb116, _, none⟩) NB115_116.out _).trans (((cell_far (p := ⟨gb116, _, none⟩) NB115_116.out _).trans (((cell_far (p := ⟨gb116, _, none⟩) NB115_116.out _).trans (((cell_far (p := ⟨gb116, _, none⟩) NB115_116.out _).trans (((cell_far (p := ⟨gb116, _, none⟩) NB115_116.out _).trans (((cell_far (p := ⟨gb116, _, none⟩) NB115_116.out _).trans (((cell_far (p := ⟨gb116, _, none⟩) NB115_116.out _).trans (hHeld.2.2.2.1)))))))))))))), ((cell_far (p := ⟨gb116, _, none⟩) NB115_116.out _).trans (((cell_far (p := ⟨gb116, _, none⟩) NB115_116.out _).trans (((cell_far (p := ⟨gb116, _, none⟩) NB115_116.out _).trans (((cell_far (p := ⟨gb116, _, none⟩) NB115_116.out _).trans (((cell_far (p := ⟨gb116, _, none⟩) NB115_116.out _).trans (((cell_far (p := ⟨gb116, _, none⟩) NB115_116.out _).trans (((cell_far (p := ⟨gb116, _, none⟩) NB115_116.out _).trans (hHeld.2.2.2.2.1)))))))))))))), ((cell_far (p := ⟨gb116, _, none⟩) NB115_116.out _).trans (((cell_far (p := ⟨gb116, _, none⟩) NB115_116.out _).trans (((cell_far (p := ⟨gb116, _, none⟩) NB115_116.out _).trans (((cell_far (p := ⟨gb116, _, none⟩) NB115_116.out _).trans (((cell_far (p := ⟨gb116, _, none⟩) NB115_116.out _).trans (((cell_far (p := ⟨gb116, _, none⟩) NB115_116.out _).trans (((cell_far (p := ⟨gb116, _, none⟩) NB115_116.out _).trans (hHeld.2.2.2.2.2.1)))))))))))))), ((cell_far (p := ⟨gb116, _, none⟩) NB115_116.out _).trans (((cell_far (p := ⟨gb116, _, none⟩) NB115_116.out _).trans (((cell_far (p := ⟨gb116, _, none⟩) NB115_116.out _).trans (((cell_far (p := ⟨gb116, _, none⟩) NB115_116.out _).trans (((cell_far (p := ⟨gb116, _, none⟩) NB115_116.out _).trans (((cell_far (p := ⟨gb116, _, none⟩) NB115_116.out _).trans (((cell_far (p := ⟨gb116, _, none⟩) NB115_116.out _).trans (hHeld.2.2.2.2.2.2))))))))))))))⟩ (fun hHeld => ?_)
     clear hK K
     refine done_ (by kernel_rfl) ?_
     try go_wp2
     refine bodyPost_ret (results_tc rfl _ _ gb116 42 #[.int .i64 x116000_1, .int .i64 x116001_1, .int .i64 x116002_1, .int .i64 x116003_1, .int .i64 x116004_1, .int .i64 x116005_1, .int .i64 x116006_1] (0, 0) _ rfl (by (with_reducible repeat (first | refine blk_drewN ?_ _ | refine blk_drew ?_ | refine blk_alloc ?_ _)); refine blk_put (cs := #[.int .i64 x116000_1, .int .i64 x116001_1, .int .i64 x116002_1, .int .i64 x116003_1, .int .i64 x116004_1, .int .i64 x116005_1, .int .i64 0]) ?_ 6 _ rfl; (with_reducible repeat (first | refine blk_drewN ?_ _ | refine blk_drew ?_ | refine blk_alloc ?_ _)); refine blk_put (cs := #[.int .i64 x116000_1, .int .i64 x116001_1, .int .i64 x116002_1, .int .i64 x116003_1, .int .i64 x116004_1, .int .i64 0, .int .i64 0]) ?_ 5 _ rfl; (with_reducible repeat (first | refine blk_drewN ?_ _ | refine blk_drew ?_ | refine blk_alloc ?_ _)); refine blk_put (cs := #[.int .i64 x116000_1, .int .i64 x116001_1, .int .i64 x116002_1, .int .i64 x116003_1, .int .i64 0, .int .i64 0, .int .i64 0]) ?_ 4 _ rfl; (with_reducible repeat (first | refine blk_drewN ?_ _ | refine blk_drew ?_ | refine blk_alloc ?_ _)); refine blk_put (cs := #[.int .i64 x116000_1, .int .i64 x116001_1, .int .i64 x116002_1, .int .i64 0, .int .i64 0, .int .i64 0, .int .i64 0]) ?_ 3 _ rfl; (with_reducible repeat (first | refine blk_drewN ?_ _ | refine blk_drew ?_ | refine blk_alloc ?_ _)); refine blk_put (cs := #[.int .i64 x116000_1, .int .i64 x116001_1, .int .i64 0, .int .i64 0, .int .i64 0, .int .i64 0, .int .i64 0]) ?_ 2 _ rfl; (with_reducible repeat (first | refine blk_drewN ?_ _ | refine blk_drew ?_ | refine blk_alloc ?_ _)); refine blk_put (cs := #[.int .i64 x116000_1, .int .i64 0, .int .i64 0, .int .i64 0, .int .i64 0, .int .i64 0, .int .i64 0]) ?_ 1 _ rfl; (with_reducible repeat (first | refine blk_drewN ?_ _ | refine blk_drew ?_ | refine blk_alloc ?_ _)); refine blk_put (cs := #[.int .i64 0, .int .i64 0, .int .i64 0, .int .i64 0, .int .i64 0, .int .i64 0, .int .i64 0]) ?_ 0 _ rfl; (with_reducible repeat (first | refine blk_drewN ?_ _ | refine blk_drew ?_ | refine blk_alloc ?_ _)); exact BK116.out) Try.underlying42 rfl (by kernel_rfl)) rfl ?_
     exact ⟨by first | rfl | (simp [errW_none, errW_some] <;> rfl) | (simp [*, errW_none, errW_some] <;> rfl), by repeat (first | (with_reducible first | exact HB.out | apply below_alloc | apply pw_below_drewN | apply below_drew1 | refine below_set ?_ GE113.out | refine below_set ?_ GE114.out | refine below_set ?_ GE115.out | refine below_set ?_ GE116.out) | exact HB.out)⟩
end Go.Proofs.Ytklbmdakoeoplaa.X
end
section
namespace Go.Proofs.Ytklbmdakoeoplaa.X
open Go.RowKit Go.Proofs.YtklbmdakoeoplaaW.PrintWords Go.Proofs.YtklbmdakoeoplaaW.PrintLast Go.Proofs.YtklbmdakoeoplaaW.PrintMore
attribute [local go_sem] max2_int min2_int max_two min_two max_three min_three max_four min_four   -- for this text's walks alone
set_option linter.unusedVariables false
set_option linter.unusedSimpArgs false

theorem eqA42 (d : Nat) (w : World) (x0 y0 : Int) (x1 y1 : Int) (x2 y2 : Int) (x3 y3 : Int) (x4 y4 : Int) (x5 y5 : Int) (x6 y6 : Int) :
    (Op.equalIn (d + 2) 42 (.agg #[.int .i64 x0, .int .i64 x1, .int .i64 x2, .int .i64 x3, .int .i64 x4, .int .i64 x5, .int .i64 x6]) (.agg #[.int .i64 y0, .int .i64 y1, .int .i64 y2, .int .i64 y3, .int .i64 y4, .int .i64 y5, .int .i64 y6])).run Try.prog w = .ok (x0 == y0 && (x1 == y1 && (x2 == y2 && (x3 == y3 && (x4 == y4 && (x5 == y5 && (x6 == y6))))))) w := by
  have h := run_equalIn_arr7 (P := Try.prog) w d 42 3 .i64 .i64 Try.underlying42 Try.underlying3 (by kernel_rfl) x0 x1 x2 x3 x4 x5 x6 y0 y1 y2 y3 y4 y5 y6
  rw [h]; simp only [Bool.and_true]
end Go.Proofs.Ytklbmdakoeoplaa.X
end
section
namespace Go.Proofs.Ytklbmdakoeoplaa.X
open Go.RowKit Go.Proofs.YtklbmdakoeoplaaW.PrintWords Go.Proofs.YtklbmdakoeoplaaW.PrintLast Go.Proofs.YtklbmdakoeoplaaW.PrintMore
attribute [local go_sem] max2_int min2_int max_two min_two max_three min_three max_four min_four   -- for this text's walks alone
set_option linter.unusedVariables false
set_option linter.unusedSimpArgs false
/-! ### index_Slot: function 19 -/
def index_Slot.l0 : Nat → Int → Int → List (S44) → Int → Int → Option (Int)
 | 0, _, _, _, _, _ => none
 | k + 1, x1, x5, x8, x9, x10 => if x10 < x9 then (if 0 ≤ x10 then (if x10 < (x8.length : Int) then (if ((rd_T44 x8 x10).f0.f0) = x1 then (index_Slot.l0 k x1 (mx x5 (mn ((rd_T44 x8 x10).f0.f1) 1048576)) x8 x9 (wrap64 (x10 + 1))) else (index_Slot.l0 k x1 x5 x8 x9 (wrap64 (x10 + 1)))) else (none)) else (none)) else (some (wrap64 (x5 + 1)))
def index_Slot.f (k : Nat) (l0 : List (S44)) (a1 : Int) : Option (Int) := index_Slot.l0 k a1 0 l0 (l0.length : Int) 0
set_option maxHeartbeats 8000000 in
set_option maxRecDepth 100000 in
theorem index_Slot.calls (k : Nat) (A0 : Option Addr) (c0 : Nat) (l0 : List (S44)) (a1 : Int) (r : Int) (w : World) (hr0 : Kd.C k44 w A0 l0.length l0) (hc0 : l0.length ≤ c0) (h : index_Slot.f k l0 a1 = some r) :
 Calls Try.prog 19 #[.slice A0 l0.length c0, .int .i64 a1] w fun e w' => e = .returned (.int .i64 r) ∧ Below w.heap.size w w' := by
 have hu44 := Try.underlying44
 have HR0 := Aside0.mk hr0
 have HC0 := Aside0.mk hc0
 clear hr0 hc0
 have HB := Aside0.mk (Below.refl w.heap.size w)
 have H : (index_Slot.l0 k a1 0 l0 (l0.length : Int) 0) = some r := h
 clear h
 have H' := Aside0.mk H
 clear H
 go_enter Try.func19, Try.ntmps19
 go_wp2
 go_loopg [5, 10] k (fun kq v5 v10 w' => ∃ (x5_1 : Int) (x10_1 : Int), v5 = .int .i64 x5_1 ∧ v10 = .int .i64 x10_1 ∧ Aside0 (index_Slot.l0 kq a1 x5_1 l0 (l0.length : Int) x10_1 = some r) ∧ Aside0 (kq ≤ k) ∧ Aside0 (Below w.heap.size w w'))
 case atStart => exact ⟨(0), (0), (by first | rfl | (simp; done) | (simp [*]; done)), (by first | rfl | (simp; done) | (simp [*]; done)), H', ⟨Nat.le_refl _⟩, ⟨by repeat (first | (with_reducible first | exact HB.out | apply below_alloc | apply pw_below_drewN | apply below_drew1) | exact HB.out)⟩⟩
 case round =>
  clear H'
  try clear c1
  try clear p2
  obtain ⟨x5_1, x10_1, rfl, rfl, HA, HK1, HB⟩ := hrel
  cases gk with
  | zero => exact absurd HA.out (by simp [index_Slot.l0])
  | succ k1 =>
   have H := HA.out
   clear HA
   simp only [index_Slot.l0] at H
   by_cases c3 : x10_1 < (l0.length : Int)
   · rw [if_pos c3] at H
     have c3b0 : decide (x10_1 < (l0.length : Int)) = true := decide_eq_true c3
     clear c3
     by_cases c4 : 0 ≤ x10_1
     · rw [if_pos c4] at H
       have c4b0 : decide (0 ≤ x10_1) = true := decide_eq_true c4
       clear c4
       by_cases c5 : x10_1 < (l0.length : Int)
       · rw [if_pos c5] at H
         have c5b0 : decide (x10_1 < (l0.length : Int)) = true := decide_eq_true c5
         clear c5
         by_cases c6 : ((rd_T44 l0 x10_1).f0.f0) = a1
         · rw [if_pos c6] at H
           have c6b0 : (((rd_T44 l0 x10_1).f0.f0) == a1) = true := beq_iff_eq.mpr c6
           have c6b1 : (((rd_T44 l0 x10_1).f0.f0) != a1) = false := bne_eq_false_iff_eq.mpr c6
           clear c6
           obtain ⟨ji7, hji7⟩ : ∃ j_ : Int, (mn ((rd_T44 l0 x10_1).f0.f1) 1048576) = j_ := ⟨_, rfl⟩
           replace H : (index_Slot.l0 k1 a1 (mx x5_1 (ji7)) l0 (l0.length : Int) (wrap64 (x10_1 + 1))) = some r := by first | (rw [hji7] at H; exact H) | (simp only [hji7] at H ⊢; exact H)
           have hji7_ : (if 1048576 < ((rd_T44 l0 x10_1).f0.f1) then 1048576 else ((rd_T44 l0 x10_1).f0.f1)) = ji7 := hji7
           obtain ⟨ji8, hji8⟩ : ∃ j_ : Int, (mx x5_1 (ji7)) = j_ := ⟨_, rfl⟩
           replace H : (index_Slot.l0 k1 a1 ji8 l0 (l0.length : Int) (wrap64 (x10_1 + 1))) = some r := by first | (rw [hji8] at H; exact H) | (simp only [hji8] at H ⊢; exact H)
           have hji8_ : (if x5_1 < (ji7) then (ji7) else x5_1) = ji8 := hji8
           have H' := Aside0.mk H
           clear H
           have p111 : 0 ≤ (x10_1 : Int) := of_decide_eq_true (by first | (with_reducible assumption) | assumption)
           have q111 : x10_1 < (l0.length : Int) := of_decide_eq_true (by first | (with_reducible assumption) | assumption)
           obtain ⟨ad111, A111_13, c111_13, A111_14, c111_14, e111, hx111_0, hx111_1, hx111_2, hx111_3, hx111_4, hx111_5, hx111_6, hx111_7, hx111_8, hx111_9, hx111_10, hx111_11, hx111_12, hx111_13, hx111_14, hx111_15, hx111_16, hx111_17, hx111_18, hx111_19, hx111_20, hx111_21, hx111_22, hx111_23, hx111_24, hl111_13, hi111_13, hl111_14, hi111_14⟩ := at_T44 HR0.out x10_1 p111 q111
           cases e111
           replace hx111_0 := (HB.out.cell (World.block_lt_of_cell? w _ hx111_0)).trans hx111_0
           replace hx111_1 := (HB.out.cell (World.block_lt_of_cell? w _ hx111_1)).trans hx111_1
           replace hx111_2 := (HB.out.cell (World.block_lt_of_cell? w _ hx111_2)).trans hx111_2
           replace hx111_3 := (HB.out.cell (World.block_lt_of_cell? w _ hx111_3)).trans hx111_3
           replace hx111_4 := (HB.out.cell (World.block_lt_of_cell? w _ hx111_4)).trans hx111_4
           replace hx111_5 := (HB.out.cell (World.block_lt_of_cell? w _ hx111_5)).trans hx111_5
           replace hx111_6 := (HB.out.cell (World.block_lt_of_cell? w _ hx111_6)).trans hx111_6
           replace hx111_7 := (HB.out.cell (World.block_lt_of_cell? w _ hx111_7)).trans hx111_7
           replace hx111_8 := (HB.out.cell (World.block_lt_of_cell? w _ hx111_8)).trans hx111_8
           replace hx111_9 := (HB.out.cell (World.block_lt_of_cell? w _ hx111_9)).trans hx111_9
           replace hx111_10 := (HB.out.cell (World.block_lt_of_cell? w _ hx111_10)).trans hx111_10
           replace hx111_11 := (HB.out.cell (World.block_lt_of_cell? w _ hx111_11)).trans hx111_11
           replace hx111_12 := (HB.out.cell (World.block_lt_of_cell? w _ hx111_12)).trans hx111_12
           replace hx111_13 := (HB.out.cell (World.block_lt_of_cell? w _ hx111_13)).trans hx111_13
           replace hx111_14 := (HB.out.cell (World.block_lt_of_cell? w _ hx111_14)).trans hx111_14
           replace hx111_15 := (HB.out.cell (World.block_lt_of_cell? w _ hx111_15)).trans hx111_15
           replace hx111_16 := (HB.out.cell (World.block_lt_of_cell? w _ hx111_16)).trans hx111_16
           replace hx111_17 := (HB.out.cell (World.block_lt_of_cell? w _ hx111_17)).trans hx111_17
           replace hx111_18 := (HB.out.cell (World.block_lt_of_cell? w _ hx111_18)).trans hx111_18
           replace hx111_19 := (HB.out.cell (World.block_lt_of_cell? w _ hx111_19)).trans hx111_19
           replace hx111_20 := (HB.out.cell (World.block_lt_of_cell? w _ hx111_20)).trans hx111_20
           replace hx111_21 := (HB.out.cell (World.block_lt_of_cell? w _ hx111_21)).trans hx111_21
           replace hx111_22 := (HB.out.cell (World.block_lt_of_cell? w _ hx111_22)).trans hx111_22
           replace hx111_23 := (HB.out.cell (World.block_lt_of_cell? w _ hx111_23)).trans hx111_23
           replace hx111_24 := (HB.out.cell (World.block_lt_of_cell? w _ hx111_24)).trans hx111_24
           have HR111_13 := Aside0.mk hi111_13
           have HC111_13 := Aside0.mk hl111_13
           clear hi111_13 hl111_13
           have HR111_14 := Aside0.mk hi111_14
           have HC111_14 := Aside0.mk hl111_14
           clear hi111_14 hl111_14
           replace p111 := eq_true p111
           replace q111 := eq_true q111
           go_wp2_with (first | ((with_reducible refine gate_dst (N := 13) rfl ?_); refine cells_load_event ?lg (N := 13) ?ld (t := 44) (x := ?lxxz9) ?lo (p := ?lppz9) ?lx (v := .int .i64 ((rd_T44 l0 x10_1).f0.f0)) (cs := [.int .i64 ((rd_T44 l0 x10_1).f0.f1), .int .i64 ((rd_T44 l0 x10_1).f1), .int .i64 ((rd_T44 l0 x10_1).f2.f0), .int .i64 ((rd_T44 l0 x10_1).f2.f1), .int .i64 ((rd_T44 l0 x10_1).f3.f0), .int .i64 ((rd_T44 l0 x10_1).f3.f1), .int .i64 ((rd_T44 l0 x10_1).f4.f0), .int .i64 ((rd_T44 l0 x10_1).f4.f1.f0), .int .i64 ((rd_T44 l0 x10_1).f4.f1.f1), .int .i64 ((rd_T44 l0 x10_1).f4.f2.f0), .int .i64 ((rd_T44 l0 x10_1).f4.f2.f1), .int .i64 ((rd_T44 l0 x10_1).f4.f3), .slice A111_13 ((rd_T44 l0 x10_1).f4.f4).length c111_13, .slice A111_14 ((rd_T44 l0 x10_1).f4.f5).length c111_14, .bool ((rd_T44 l0 x10_1).f4.f6), .int .i64 ((rd_T44 l0 x10_1).f5), .int .i64 ((rd_T44 l0 x10_1).f6.f0), .int .i64 ((rd_T44 l0 x10_1).f6.f1), .int .i64 ((rd_T44 l0 x10_1).f6.f2), .int .i64 ((rd_T44 l0 x10_1).f6.f3), .int .i64 ((rd_T44 l0 x10_1).f6.f4), .int .i64 ((rd_T44 l0 x10_1).f6.f5), .int .i64 ((rd_T44 l0 x10_1).f6.f6), .bool ((rd_T44 l0 x10_1).f7)]) ?lD ?lt ?l0 ?lc ?_; (case lg => rfl); (case ld => rfl); (case lo => rfl); (case lx => first | rfl | (go_simp; done) | (go_simp; rfl)); (case lD => exact ⟨_, Try.underlying44, rfl⟩); (case lt => kernel_rfl); (case l0 => exact hx111_0); (case lc => exact ⟨hx111_1, hx111_2, hx111_3, hx111_4, hx111_5, hx111_6, hx111_7, hx111_8, hx111_9, hx111_10, hx111_11, hx111_12, hx111_13, hx111_14, hx111_15, hx111_16, hx111_17, hx111_18, hx111_19, hx111_20, hx111_21, hx111_22, hx111_23, hx111_24, trivial⟩)) | ((with_reducible refine gate_dst (N := 7) rfl ?_); refine alloc_store_event ?hg1 (N := 7) ?hd1 ?hg2 ?hd2 ?ho2 (cs0 := #[.int .i64 0, .int .i64 0, .int .i64 0, .int .i64 0, .int .i64 0, .int .i64 0, .int .i64 0, .int .i64 0, .int .i64 0, .int .i64 0, .int .i64 0, .int .i64 0, .int .i64 0, .slice none 0 0, .slice none 0 0, .bool false, .int .i64 0, .int .i64 0, .int .i64 0, .int .i64 0, .int .i64 0, .int .i64 0, .int .i64 0, .int .i64 0, .bool false]) (cs := #[.int .i64 ((rd_T44 l0 x10_1).f0.f0), .int .i64 ((rd_T44 l0 x10_1).f0.f1), .int .i64 ((rd_T44 l0 x10_1).f1), .int .i64 ((rd_T44 l0 x10_1).f2.f0), .int .i64 ((rd_T44 l0 x10_1).f2.f1), .int .i64 ((rd_T44 l0 x10_1).f3.f0), .int .i64 ((rd_T44 l0 x10_1).f3.f1), .int .i64 ((rd_T44 l0 x10_1).f4.f0), .int .i64 ((rd_T44 l0 x10_1).f4.f1.f0), .int .i64 ((rd_T44 l0 x10_1).f4.f1.f1), .int .i64 ((rd_T44 l0 x10_1).f4.f2.f0), .int .i64 ((rd_T44 l0 x10_1).f4.f2.f1), .int .i64 ((rd_T44 l0 x10_1).f4.f3), .slice A111_13 ((rd_T44 l0 x10_1).f4.f4).length c111_13, .slice A111_14 ((rd_T44 l0 x10_1).f4.f5).length c111_14, .bool ((rd_T44 l0 x10_1).f4.f6), .int .i64 ((rd_T44 l0 x10_1).f5), .int .i64 ((rd_T44 l0 x10_1).f6.f0), .int .i64 ((rd_T44 l0 x10_1).f6.f1), .int .i64 ((rd_T44 l0 x10_1).f6.f2), .int .i64 ((rd_T44 l0 x10_1).f6.f3), .int .i64 ((rd_T44 l0 x10_1).f6.f4), .int .i64 ((rd_T44 l0 x10_1).f6.f5), .int .i64 ((rd_T44 l0 x10_1).f6.f6), .bool ((rd_T44 l0 x10_1).f7)]) (t := 44) (x := ?xxw10) ?hr ?hp ?hx ?hs ?h1 ?ht ?_; (case hg1 => rfl); (case hd1 => rfl); (case hg2 => rfl); (case hd2 => rfl); (case ho2 => rfl); (case hr => first | (go_simp; done) | (go_simp; rfl)); (case hp => rfl); (case hx => rfl); (case hs => rfl); (case h1 => rfl); (case ht => kernel_rfl); intro gb112 hg w10 hbox hb; have n0_ := Aside0.mk (below_step lb_ hb); have n1_ := Aside0.mk (hbox); have n2_ := Aside0.mk ((by rw [hg]; exact (below_size lb_) : w.heap.size ≤ gb112)); have n3_ := Aside0.mk ((by rw [hg]; exact (below_size lb_) : w.heap.size ≤ gb112)); clear HB; have HB := n0_; have BK112 := n1_; have GW112 := n2_; have GE112 := n3_; clear n0_ n1_ n2_ n3_; clear hb hbox hg; refine blk25_ BK112.out fun hcz11_0 hcz11_1 hcz11_2 hcz11_3 hcz11_4 hcz11_5 hcz11_6 hcz11_7 hcz11_8 hcz11_9 hcz11_10 hcz11_11 hcz11_12 hcz11_13 hcz11_14 hcz11_15 hcz11_16 hcz11_17 hcz11_18 hcz11_19 hcz11_20 hcz11_21 hcz11_22 hcz11_23 hcz11_24 hfz11_0 hfz11_1 hfz11_2 hfz11_3 hfz11_4 hfz11_5 hfz11_6 hfz11_7 hfz11_8 hfz11_9 hfz11_10 hfz11_11 hfz11_12 hfz11_13 hfz11_14 hfz11_15 hfz11_16 hfz11_17 hfz11_18 hfz11_19 hfz11_20 hfz11_21 hfz11_22 hfz11_23 hfz11_24 => ?_))
           go_roundg k1
           case measure => have := HK1.out; omega
           case rel => exact ⟨(ji8), (wrap64 (x10_1 + 1)), (by first | rfl | (simp; done) | (simp only [← hji8] <;> (first | rfl | (simp; done))) | (simp [*]; done) | (subst_vars; simp only [mx_eq, mn_eq]; done)), (by first | rfl | (simp; done) | (simp [*]; done)), H', ⟨by have := HK1.out; omega⟩, ⟨by repeat (first | (with_reducible first | exact HB.out | apply below_alloc | apply pw_below_drewN | apply below_drew1 | refine below_set ?_ GE112.out) | exact HB.out)⟩⟩
         · rw [if_neg c6] at H
           have c6b0 : (((rd_T44 l0 x10_1).f0.f0) == a1) = false := beq_eq_false_iff_ne.mpr c6
           have c6b1 : (((rd_T44 l0 x10_1).f0.f0) != a1) = true := bne_iff_ne.mpr c6
           have H' := Aside0.mk H
           clear H
           have p111 : 0 ≤ (x10_1 : Int) := of_decide_eq_true (by first | (with_reducible assumption) | assumption)
           have q111 : x10_1 < (l0.length : Int) := of_decide_eq_true (by first | (with_reducible assumption) | assumption)
           obtain ⟨ad111, A111_13, c111_13, A111_14, c111_14, e111, hx111_0, hx111_1, hx111_2, hx111_3, hx111_4, hx111_5, hx111_6, hx111_7, hx111_8, hx111_9, hx111_10, hx111_11, hx111_12, hx111_13, hx111_14, hx111_15, hx111_16, hx111_17, hx111_18, hx111_19, hx111_20, hx111_21, hx111_22, hx111_23, hx111_24, hl111_13, hi111_13, hl111_14, hi111_14⟩ := at_T44 HR0.out x10_1 p111 q111
           cases e111
           replace hx111_0 := (HB.out.cell (World.block_lt_of_cell? w _ hx111_0)).trans hx111_0
           replace hx111_1 := (HB.out.cell (World.block_lt_of_cell? w _ hx111_1)).trans hx111_1
           replace hx111_2 := (HB.out.cell (World.block_lt_of_cell? w _ hx111_2)).trans hx111_2
           replace hx111_3 := (HB.out.cell (World.block_lt_of_cell? w _ hx111_3)).trans hx111_3
           replace hx111_4 := (HB.out.cell (World.block_lt_of_cell? w _ hx111_4)).trans hx111_4
           replace hx111_5 := (HB.out.cell (World.block_lt_of_cell? w _ hx111_5)).trans hx111_5
           replace hx111_6 := (HB.out.cell (World.block_lt_of_cell? w _ hx111_6)).trans hx111_6
           replace hx111_7 := (HB.out.cell (World.block_lt_of_cell? w _ hx111_7)).trans hx111_7
           replace hx111_8 := (HB.out.cell (World.block_lt_of_cell? w _ hx111_8)).trans hx111_8
           replace hx111_9 := (HB.out.cell (World.block_lt_of_cell? w _ hx111_9)).trans hx111_9
           replace hx111_10 := (HB.out.cell (World.block_lt_of_cell? w _ hx111_10)).trans hx111_10
           replace hx111_11 := (HB.out.cell (World.block_lt_of_cell? w _ hx111_11)).trans hx111_11
           replace hx111_12 := (HB.out.cell (World.block_lt_of_cell? w _ hx111_12)).trans hx111_12
           replace hx111_13 := (HB.out.cell (World.block_lt_of_cell? w _ hx111_13)).trans hx111_13
           replace hx111_14 := (HB.out.cell (World.block_lt_of_cell? w _ hx111_14)).trans hx111_14
           replace hx111_15 := (HB.out.cell (World.block_lt_of_cell? w _ hx111_15)).trans hx111_15
           replace hx111_16 := (HB.out.cell (World.block_lt_of_cell? w _ hx111_16)).trans hx111_16
           replace hx111_17 := (HB.out.cell (World.block_lt_of_cell? w _ hx111_17)).trans hx111_17
           replace hx111_18 := (HB.out.cell (World.block_lt_of_cell? w _ hx111_18)).trans hx111_18
           replace hx111_19 := (HB.out.cell (World.block_lt_of_cell? w _ hx111_19)).trans hx111_19
           replace hx111_20 := (HB.out.cell (World.block_lt_of_cell? w _ hx111_20)).trans hx111_20
           replace hx111_21 := (HB.out.cell (World.block_lt_of_cell? w _ hx111_21)).trans hx111_21
           replace hx111_22 := (HB.out.cell (World.block_lt_of_cell? w _ hx111_22)).trans hx111_22
           replace hx111_23 := (HB.out.cell (World.block_lt_of_cell? w _ hx111_23)).trans hx111_23
           replace hx111_24 := (HB.out.cell (World.block_lt_of_cell? w _ hx111_24)).trans hx111_24
           have HR111_13 := Aside0.mk hi111_13
           have HC111_13 := Aside0.mk hl111_13
           clear hi111_13 hl111_13
           have HR111_14 := Aside0.mk hi111_14
           have HC111_14 := Aside0.mk hl111_14
           clear hi111_14 hl111_14
           replace p111 := eq_true p111
           replace q111 := eq_true q111
           go_wp2_with (first | ((with_reducible refine gate_dst (N := 13) rfl ?_); refine cells_load_event ?lg (N := 13) ?ld (t := 44) (x := ?lxxz12) ?lo (p := ?lppz12) ?lx (v := .int .i64 ((rd_T44 l0 x10_1).f0.f0)) (cs := [.int .i64 ((rd_T44 l0 x10_1).f0.f1), .int .i64 ((rd_T44 l0 x10_1).f1), .int .i64 ((rd_T44 l0 x10_1).f2.f0), .int .i64 ((rd_T44 l0 x10_1).f2.f1), .int .i64 ((rd_T44 l0 x10_1).f3.f0), .int .i64 ((rd_T44 l0 x10_1).f3.f1), .int .i64 ((rd_T44 l0 x10_1).f4.f0), .int .i64 ((rd_T44 l0 x10_1).f4.f1.f0), .int .i64 ((rd_T44 l0 x10_1).f4.f1.f1), .int .i64 ((rd_T44 l0 x10_1).f4.f2.f0), .int .i64 ((rd_T44 l0 x10_1).f4.f2.f1), .int .i64 ((rd_T44 l0 x10_1).f4.f3), .slice A111_13 ((rd_T44 l0 x10_1).f4.f4).length c111_13, .slice A111_14 ((rd_T44 l0 x10_1).f4.f5).length c111_14, .bool ((rd_T44 l0 x10_1).f4.f6), .int .i64 ((rd_T44 l0 x10_1).f5), .int .i64 ((rd_T44 l0 x10_1).f6.f0), .int .i64 ((rd_T44 l0 x10_1).f6.f1), .int .i64 ((rd_T44 l0 x10_1).f6.f2), .int .i64 ((rd_T44 l0 x10_1).f6.f3), .int .i64 ((rd_T44 l0 x10_1).f6.f4), .int .i64 ((rd_T44 l0 x10_1).f6.f5), .int .i64 ((rd_T44 l0 x10_1).f6.f6), .bool ((rd_T44 l0 x10_1).f7)]) ?lD ?lt ?l0 ?lc ?_; (case lg => rfl); (case ld => rfl); (case lo => rfl); (case lx => first | rfl | (go_simp; done) | (go_simp; rfl)); (case lD => exact ⟨_, Try.underlying44, rfl⟩); (case lt => kernel_rfl); (case l0 => exact hx111_0); (case lc => exact ⟨hx111_1, hx111_2, hx111_3, hx111_4, hx111_5, hx111_6, hx111_7, hx111_8, hx111_9, hx111_10, hx111_11, hx111_12, hx111_13, hx111_14, hx111_15, hx111_16, hx111_17, hx111_18, hx111_19, hx111_20, hx111_21, hx111_22, hx111_23, hx111_24, trivial⟩)) | ((with_reducible refine gate_dst (N := 7) rfl ?_); refine alloc_store_event ?hg1 (N := 7) ?hd1 ?hg2 ?hd2 ?ho2 (cs0 := #[.int .i64 0, .int .i64 0, .int .i64 0, .int .i64 0, .int .i64 0, .int .i64 0, .int .i64 0, .int .i64 0, .int .i64 0, .int .i64 0, .int .i64 0, .int .i64 0, .int .i64 0, .slice none 0 0, .slice none 0 0, .bool false, .int .i64 0, .int .i64 0, .int .i64 0, .int .i64 0, .int .i64 0, .int .i64 0, .int .i64 0, .int .i64 0, .bool false]) (cs := #[.int .i64 ((rd_T44 l0 x10_1).f0.f0), .int .i64 ((rd_T44 l0 x10_1).f0.f1), .int .i64 ((rd_T44 l0 x10_1).f1), .int .i64 ((rd_T44 l0 x10_1).f2.f0), .int .i64 ((rd_T44 l0 x10_1).f2.f1), .int .i64 ((rd_T44 l0 x10_1).f3.f0), .int .i64 ((rd_T44 l0 x10_1).f3.f1), .int .i64 ((rd_T44 l0 x10_1).f4.f0), .int .i64 ((rd_T44 l0 x10_1).f4.f1.f0), .int .i64 ((rd_T44 l0 x10_1).f4.f1.f1), .int .i64 ((rd_T44 l0 x10_1).f4.f2.f0), .int .i64 ((rd_T44 l0 x10_1).f4.f2.f1), .int .i64 ((rd_T44 l0 x10_1).f4.f3), .slice A111_13 ((rd_T44 l0 x10_1).f4.f4).length c111_13, .slice A111_14 ((rd_T44 l0 x10_1).f4.f5).length c111_14, .bool ((rd_T44 l0 x10_1).f4.f6), .int .i64 ((rd_T44 l0 x10_1).f5), .int .i64 ((rd_T44 l0 x10_1).f6.f0), .int .i64 ((rd_T44 l0 x10_1).f6.f1), .int .i64 ((rd_T44 l0 x10_1).f6.f2), .int .i64 ((rd_T44 l0 x10_1).f6.f3), .int .i64 ((rd_T44 l0 x10_1).f6.f4), .int .i64 ((rd_T44 l0 x10_1).f6.f5), .int .i64 ((rd_T44 l0 x10_1).f6.f6), .bool ((rd_T44 l0 x10_1).f7)]) (t := 44) (x := ?xxw13) ?hr ?hp ?hx ?hs ?h1 ?ht ?_; (case hg1 => rfl); (case hd1 => rfl); (case hg2 => rfl); (case hd2 => rfl); (case ho2 => rfl); (case hr => first | (go_simp; done) | (go_simp; rfl)); (case hp => rfl); (case hx => rfl); (case hs => rfl); (case h1 => rfl); (case ht => kernel_rfl); intro gb112 hg w13 hbox hb; have n0_ := Aside0.mk (below_step lb_ hb); have n1_ := Aside0.mk (hbox); have n2_ := Aside0.mk ((by rw [hg]; exact (below_size lb_) : w.heap.size ≤ gb112)); have n3_ := Aside0.mk ((by rw [hg]; exact (below_size lb_) : w.heap.size ≤ gb112)); clear HB; have HB := n0_; have BK112 := n1_; have GW112 := n2_; have GE112 := n3_; clear n0_ n1_ n2_ n3_; clear hb hbox hg; refine blk25_ BK112.out fun hcz14_0 hcz14_1 hcz14_2 hcz14_3 hcz14_4 hcz14_5 hcz14_6 hcz14_7 hcz14_8 hcz14_9 hcz14_10 hcz14_11 hcz14_12 hcz14_13 hcz14_14 hcz14_15 hcz14_16 hcz14_17 hcz14_18 hcz14_19 hcz14_20 hcz14_21 hcz14_22 hcz14_23 hcz14_24 hfz14_0 hfz14_1 hfz14_2 hfz14_3 hfz14_4 hfz14_5 hfz14_6 hfz14_7 hfz14_8 hfz14_9 hfz14_10 hfz14_11 hfz14_12 hfz14_13 hfz14_14 hfz14_15 hfz14_16 hfz14_17 hfz14_18 hfz14_19 hfz14_20 hfz14_21 hfz14_22 hfz14_23 hfz14_24 => ?_))
           go_roundg k1
           case measure => have := HK1.out; omega
           case rel => exact ⟨(x5_1), (wrap64 (x10_1 + 1)), (by first | rfl | (simp; done) | (simp [*]; done)), (by first | rfl | (simp; done) | (simp [*]; done)), H', ⟨by have := HK1.out; omega⟩, ⟨by repeat (first | (with_reducible first | exact HB.out | apply below_alloc | apply pw_below_drewN | apply below_drew1 | refine below_set ?_ GE112.out) | exact HB.out)⟩⟩
       · rw [if_neg c5] at H
         exact absurd H (by simp)
     · rw [if_neg c4] at H
       exact absurd H (by simp)
   · rw [if_neg c3] at H
     have c3b0 : decide (x10_1 < (l0.length : Int)) = false := decide_eq_false c3
     clear c3
     obtain rfl := Option.some.inj H
     go_wp2
     go_ret
     exact ⟨by first | rfl | (simp [errW_none, errW_some] <;> rfl) | (simp [*, errW_none, errW_some] <;> rfl), by repeat (first | (with_reducible first | exact HB.out | apply below_alloc | apply pw_below_drewN | apply below_drew1) | exact HB.out)⟩
end Go.Proofs.Ytklbmdakoeoplaa.X
end
section
namespace Go.Proofs.Ytklbmdakoeoplaa.X
open Go.RowKit Go.Proofs.YtklbmdakoeoplaaW.PrintWords Go.Proofs.YtklbmdakoeoplaaW.PrintLast Go.Proofs.YtklbmdakoeoplaaW.PrintMore
attribute [local go_sem] max2_int min2_int max_two min_two max_three min_three max_four min_four   -- for this text's walks alone
set_option linter.unusedVariables false
set_option linter.unusedSimpArgs false
/-! ### althinglaw11_some: function 29 -/
def althinglaw11_some.f (a0 : Int) : Option (Int × Int × Int × Int × Int × Int × (List (S61)) × (List (S46)) × Bool) := some (1, 0, a0, 1, 0, 1, ([] : List (S61)), (([(⟨(⟨#[97]⟩ : ByteArray), (⟨#[]⟩ : ByteArray)⟩ : S46)] : List (S46))), false)
set_option maxHeartbeats 8000000 in
set_option maxRecDepth 100000 in
theorem althinglaw11_some.calls (a0 : Int) (r1 : Int) (r2 : Int) (r3 : Int) (r4 : Int) (r5 : Int) (r6 : Int) (r7 : List (S61)) (r8 : List (S46)) (r9 : Bool) (w : World) (h : althinglaw11_some.f a0 = some (r1, r2, r3, r4, r5, r6, r7, r8, r9)) :
 Calls Try.prog 29 #[.int .i64 a0] w fun e w' => ∃ v6_ v7_ : Value, e = .returned (.agg #[.int .i64 r1, .int .i64 r2, .int .i64 r3, .int .i64 r4, .int .i64 r5, .int .i64 r6, v6_, v7_, .bool r9]) ∧ Kd.R k61 61 w' w.heap.size (fun _ => True) v6_ r7 ∧ Kd.R k46 46 w' w.heap.size (fun _ => True) v7_ r8 ∧ Below w.heap.size w w' := by
 have hu32 := Try.underlying32
 have hu26 := Try.underlying26
 have hu28 := Try.underlying28
 have hu46 := Try.underlying46
 have HB := Aside0.mk (Below.refl w.heap.size w)
 have H : (some (1, 0, a0, 1, 0, 1, ([] : List (S61)), (([(⟨(⟨#[97]⟩ : ByteArray), (⟨#[]⟩ : ByteArray)⟩ : S46)] : List (S46))), false)) = some (r1, r2, r3, r4, r5, r6, r7, r8, r9) := h
 clear h
 obtain ⟨y130, hy130⟩ : ∃ y_ : List (S46), y_ = (([(⟨(⟨#[97]⟩ : ByteArray), (⟨#[]⟩ : ByteArray)⟩ : S46)] : List (S46))) := ⟨_, rfl⟩
 replace H : (some (1, 0, a0, 1, 0, 1, ([] : List (S61)), y130, false)) = some (r1, r2, r3, r4, r5, r6, r7, r8, r9) := by first | (rw [hy130]; with_reducible exact H) | (have H2_ := (Option.bind_some _ _).symm.trans H; rw [hy130]; with_reducible exact H2_) | (have H2_ := (Option.bind_some _ _).symm.trans H; with_reducible exact H2_) | with_reducible exact H | (rw [hy130]; exact H) | exact H
 have Ny130 := Aside0.mk hy130
 clear hy130
 simp only [Option.some.injEq, Prod.mk.injEq] at H
 obtain ⟨rfl, rfl, rfl, rfl, rfl, rfl, rfl, rfl, rfl⟩ := H
 go_enter Try.func29, Try.ntmps29
 go_wp2_with (first | ((with_reducible refine gate_dst (N := 2) rfl ?_); refine box_event ?hg (N := 2) ?hd (cs := #[.int .i64 0, .int .i64 0, .int .i64 0, .int .i64 0, .int .i64 0, .int .i64 0, .slice none 0 0, .slice none 0 0, .bool false]) (t := 32) ?hr ?_; (case hd => rfl); (case hg => rfl); (case hr => first | (go_simp; done) | (go_simp; rfl)); intro gb129 hg w2 hbox hb; have n0_ := Aside0.mk (below_step lb_ hb); have n1_ := Aside0.mk (hbox); have n2_ := Aside0.mk ((by rw [hg]; exact (below_size lb_) : w.heap.size ≤ gb129)); have n3_ := Aside0.mk ((by rw [hg]; exact (below_size lb_) : w.heap.size ≤ gb129)); clear HB; have HB := n0_; have BK129 := n1_; have GW129 := n2_; have GE129 := n3_; clear n0_ n1_ n2_ n3_; clear hb hbox hg) | ((with_reducible refine gate_dst (N := 7) rfl ?_); refine Kd.R_lit k46 _ 46 ?hg (N := 7) ?hd (xs := ([(⟨(⟨#[97]⟩ : ByteArray), (⟨#[]⟩ : ByteArray)⟩ : S46)] : List (S46))) (inner := [.string (⟨#[97]⟩ : ByteArray), .string (⟨#[]⟩ : ByteArray)]) (ok := fun _ => True) (okp := fun _ => True) ?hr ?hp (fun _ hk => hk) trivial (Below.refl _ _) (Nat.le_refl _) (by simp) ?_; (case hd => rfl); (case hg => rfl); (case hr => first | (go_simp; done) | (go_simp; rfl)); (case hp => exact (Reps.c2 (show Kd.M k46 _ _ _ (⟨(⟨#[97]⟩ : ByteArray), (⟨#[]⟩ : ByteArray)⟩ : S46) [.string (⟨#[97]⟩ : ByteArray), .string (⟨#[]⟩ : ByteArray)] from (k46_mkM _ _ _ (⟨(⟨#[97]⟩ : ByteArray), (⟨#[]⟩ : ByteArray)⟩ : S46) )) (Reps.none _ _))); intro v131 w3 ho4 hb hg_ hnew_; clear hg_ hnew_; (first | rw [← Ny130.out] at ho4 | (simp only [Int.reduceToNat] at ho4; rw [← Ny130.out] at ho4)); have n0_ := Aside0.mk (Kd.R_lower ho4 (below_size (by repeat (first | (with_reducible first | exact HB.out | apply below_alloc | apply pw_below_drewN | apply below_drew1 | refine below_set ?_ GE129.out) | exact HB.out)))); have n1_ := Aside0.mk (blk_below (kb_ BK129.out) hb); have n2_ := Aside0.mk (below_step (by repeat (first | (with_reducible first | exact HB.out | apply below_alloc | apply pw_below_drewN | apply below_drew1 | refine below_set ?_ GE129.out) | exact HB.out)) hb); clear BK129; clear HB; have HO132 := n0_; have BK129 := n1_; have HB := n2_; clear n0_ n1_ n2_; clear hb ho4; obtain ⟨Ao5, co5, eo5⟩ := Kd.R_slice HO132.out; subst eo5; refine blk9_ BK129.out fun hcz6_0 hcz6_1 hcz6_2 hcz6_3 hcz6_4 hcz6_5 hcz6_6 hcz6_7 hcz6_8 hfz6_0 hfz6_1 hfz6_2 hfz6_3 hfz6_4 hfz6_5 hfz6_6 hfz6_7 hfz6_8 => ?_) | ((with_reducible refine gate_store (t := 32) (p := 2) rfl ?_); refine store_event (t := 32) (p := 2) (v := ?vo_w7) (w1 := (((((((((w3.setCell ⟨gb129, 0, none⟩ (.int .i64 1)).setCell ⟨gb129, 1, none⟩ (.int .i64 0)).setCell ⟨gb129, 2, none⟩ (.int .i64 a0)).setCell ⟨gb129, 3, none⟩ (.int .i64 1)).setCell ⟨gb129, 4, none⟩ (.int .i64 0)).setCell ⟨gb129, 5, none⟩ (.int .i64 1)).setCell ⟨gb129, 6, none⟩ (.slice none 0 0)).setCell ⟨gb129, 7, none⟩ (.slice Ao5 y130.length co5)).setCell ⟨gb129, 8, none⟩ (.bool false))) ?hg ?ho ?hn ?hr ?_; (case ho => rfl); (case hg => rfl); (case hn => rfl); (case hr => first | (go_simp; done) | (go_simp; rfl)); intro w7 hw; have n0_ : Aside0 (Kd.R k46 46 w7 w.heap.size (fun _ => True) (.slice Ao5 y130.length co5) y130) := ⟨(by rw [hw]; exact (by (with_reducible repeat (first | apply Kd.R_alloc | apply Kd.R_drewN | apply Kd.R_drew)); exact Kd.R_mono (Kd.R_far (p := ⟨gb129, 8, none⟩) (Kd.R_far (p := ⟨gb129, 7, none⟩) (Kd.R_far (p := ⟨gb129, 6, none⟩) (Kd.R_far (p := ⟨gb129, 5, none⟩) (Kd.R_far (p := ⟨gb129, 4, none⟩) (Kd.R_far (p := ⟨gb129, 3, none⟩) (Kd.R_far (p := ⟨gb129, 2, none⟩) (Kd.R_far (p := ⟨gb129, 1, none⟩) (Kd.R_far (p := ⟨gb129, 0, none⟩) (Kd.R_types HO132.out BK129.out (by decide)) (fun _ hk => hk.2) (.int .i64 1)) (fun _ hk => hk.2) (.int .i64 0)) (fun _ hk => hk.2) (.int .i64 a0)) (fun _ hk => hk.2) (.int .i64 1)) (fun _ hk => hk.2) (.int .i64 0)) (fun _ hk => hk.2) (.int .i64 1)) (fun _ hk => hk.2) (.slice none 0 0)) (fun _ hk => hk.2) (.slice Ao5 y130.length co5)) (fun _ hk => hk.2) (.bool false)) (fun _ hk => trivial)))⟩; have n1_ : Aside0 (w7.heap[gb129]? = some (.cells #[.int .i64 1, .int .i64 0, .int .i64 a0, .int .i64 1, .int .i64 0, .int .i64 1, .slice none 0 0, .slice Ao5 y130.length co5, .bool false] 32 (0, 0))) := ⟨(by rw [hw]; exact (by (with_reducible repeat (first | refine blk_drewN ?_ _ | refine blk_drew ?_ | refine blk_alloc ?_ _)); refine blk_put (cs := #[.int .i64 1, .int .i64 0, .int .i64 a0, .int .i64 1, .int .i64 0, .int .i64 1, .slice none 0 0, .slice Ao5 y130.length co5, .bool false]) ?_ 8 _ rfl; (with_reducible repeat (first | refine blk_drewN ?_ _ | refine blk_drew ?_ | refine blk_alloc ?_ _)); refine blk_put (cs := #[.int .i64 1, .int .i64 0, .int .i64 a0, .int .i64 1, .int .i64 0, .int .i64 1, .slice none 0 0, .slice none 0 0, .bool false]) ?_ 7 _ rfl; (with_reducible repeat (first | refine blk_drewN ?_ _ | refine blk_drew ?_ | refine blk_alloc ?_ _)); refine blk_put (cs := #[.int .i64 1, .int .i64 0, .int .i64 a0, .int .i64 1, .int .i64 0, .int .i64 1, .slice none 0 0, .slice none 0 0, .bool false]) ?_ 6 _ rfl; (with_reducible repeat (first | refine blk_drewN ?_ _ | refine blk_drew ?_ | refine blk_alloc ?_ _)); refine blk_put (cs := #[.int .i64 1, .int .i64 0, .int .i64 a0, .int .i64 1, .int .i64 0, .int .i64 0, .slice none 0 0, .slice none 0 0, .bool false]) ?_ 5 _ rfl; (with_reducible repeat (first | refine blk_drewN ?_ _ | refine blk_drew ?_ | refine blk_alloc ?_ _)); refine blk_put (cs := #[.int .i64 1, .int .i64 0, .int .i64 a0, .int .i64 1, .int .i64 0, .int .i64 0, .slice none 0 0, .slice none 0 0, .bool false]) ?_ 4 _ rfl; (with_reducible repeat (first | refine blk_drewN ?_ _ | refine blk_drew ?_ | refine blk_alloc ?_ _)); refine blk_put (cs := #[.int .i64 1, .int .i64 0, .int .i64 a0, .int .i64 0, .int .i64 0, .int .i64 0, .slice none 0 0, .slice none 0 0, .bool false]) ?_ 3 _ rfl; (with_reducible repeat (first | refine blk_drewN ?_ _ | refine blk_drew ?_ | refine blk_alloc ?_ _)); refine blk_put (cs := #[.int .i64 1, .int .i64 0, .int .i64 0, .int .i64 0, .int .i64 0, .int .i64 0, .slice none 0 0, .slice none 0 0, .bool false]) ?_ 2 _ rfl; (with_reducible repeat (first | refine blk_drewN ?_ _ | refine blk_drew ?_ | refine blk_alloc ?_ _)); refine blk_put (cs := #[.int .i64 1, .int .i64 0, .int .i64 0, .int .i64 0, .int .i64 0, .int .i64 0, .slice none 0 0, .slice none 0 0, .bool false]) ?_ 1 _ rfl; (with_reducible repeat (first | refine blk_drewN ?_ _ | refine blk_drew ?_ | refine blk_alloc ?_ _)); refine blk_put (cs := #[.int .i64 0, .int .i64 0, .int .i64 0, .int .i64 0, .int .i64 0, .int .i64 0, .slice none 0 0, .slice none 0 0, .bool false]) ?_ 0 _ rfl; (with_reducible repeat (first | refine blk_drewN ?_ _ | refine blk_drew ?_ | refine blk_alloc ?_ _)); exact BK129.out))⟩; have n2_ : Aside0 (Below w.heap.size w w7) := ⟨(by rw [hw]; exact (by repeat (first | (with_reducible first | exact HB.out | apply below_alloc | apply pw_below_drewN | apply below_drew1 | refine below_set ?_ GE129.out) | exact HB.out)))⟩; clear hw; clear HO132; clear BK129; clear HB; have HO132 := n0_; have BK129 := n1_; have HB := n2_; clear n0_ n1_ n2_))
 refine bodyPost_ret (results_cell_row rfl _ _ gb129 32 #[.int .i64 1, .int .i64 0, .int .i64 a0, .int .i64 1, .int .i64 0, .int .i64 1, .slice none 0 0, .slice Ao5 y130.length co5, .bool false] (0, 0) _ rfl (kb_ BK129.out) Try.underlying32 rfl (by kernel_rfl)) rfl ?_
 exact ⟨_, _, by first | rfl | (simp [errW_none, errW_some] <;> rfl) | (simp [*, errW_none, errW_some] <;> rfl), by first | exact Kd.R_nil _ _ _ _ _ | exact Kd.N_nil _ _ _ _ _ | exact Kd.V_nil _ _ _ _ _ | exact Kd.Q_nil _ _ _ _ _ | exact Kd.S_nil _ _ _ _ _, by (with_reducible repeat (first | apply Kd.R_alloc | apply Kd.R_drewN | apply Kd.R_drew)); exact HO132.out, by repeat (first | (with_reducible first | exact HB.out | apply below_alloc | apply pw_below_drewN | apply below_drew1 | refine below_set ?_ GE129.out) | exact HB.out)⟩
end Go.Proofs.Ytklbmdakoeoplaa.X
end
section
namespace Go.Proofs.Ytklbmdakoeoplaa.X
open Go.RowKit Go.Proofs.YtklbmdakoeoplaaW.PrintWords Go.Proofs.YtklbmdakoeoplaaW.PrintLast Go.Proofs.YtklbmdakoeoplaaW.PrintMore
attribute [local go_sem] max2_int min2_int max_two min_two max_three min_three max_four min_four   -- for this text's walks alone
set_option linter.unusedVariables false
set_option linter.unusedSimpArgs false
attribute [local go_sem high] eqA42
/-! ### althinglaw11_awake: function 12 -/
def althinglaw11_awake.f (k : Nat)  : Option (Bool) := (althinglaw11_some.f 1).bind fun bt133 => ((some (([(⟨(⟨0, 3⟩ : S24), 1, (⟨0, 0⟩ : S40), (⟨0, 0⟩ : S40), (⟨bt133.1, (⟨bt133.2.1, bt133.2.2.1⟩ : S26), (⟨bt133.2.2.2.1, bt133.2.2.2.2.1⟩ : S28), bt133.2.2.2.2.2.1, bt133.2.2.2.2.2.2.1, bt133.2.2.2.2.2.2.2.1, bt133.2.2.2.2.2.2.2.2⟩ : S32), 5, (⟨0, 0, 0, 0, 0, 0, 0⟩ : S42), false⟩ : S44)] : List (S44)) : List (S44))).bind fun y146 => ((althinglaw11_some.f 2).bind fun bt149 => ((index_Attrs.f k y146 1 1 bt149.1 bt149.2.1 bt149.2.2.1 bt149.2.2.2.1 bt149.2.2.2.2.1 bt149.2.2.2.2.2.1 bt149.2.2.2.2.2.2.1 bt149.2.2.2.2.2.2.2.1 bt149.2.2.2.2.2.2.2.2 1 0 0 0 0 0 0 0).bind fun bt162 => (if bt162.1 = 6 then (if (bt162.2.1 == 3 && (bt162.2.2.1 == 0 && (bt162.2.2.2.1 == 0 && (bt162.2.2.2.2.1 == 0 && (bt162.2.2.2.2.2.1 == 0 && (bt162.2.2.2.2.2.2.1 == 0 && (bt162.2.2.2.2.2.2.2 == 0))))))) = true then ((index_Slot.f k y146 0).bind fun t171 => (some (t171 == 4))) else (some false)) else (some false)))))
set_option maxHeartbeats 8000000 in
set_option maxRecDepth 100000 in
theorem althinglaw11_awake.calls (k : Nat)  (r : Bool) (w : World) (h : althinglaw11_awake.f k  = some r) :
 Calls Try.prog 12 #[] w fun e w' => e = .returned (.bool r) ∧ Below w.heap.size w w' := by
 have hu24 := Try.underlying24
 have hu44 := Try.underlying44
 have hu42 := Try.underlying42
 have HB := Aside0.mk (Below.refl w.heap.size w)
 have H : ((althinglaw11_some.f 1).bind fun bt133 => ((some (([(⟨(⟨0, 3⟩ : S24), 1, (⟨0, 0⟩ : S40), (⟨0, 0⟩ : S40), (⟨bt133.1, (⟨bt133.2.1, bt133.2.2.1⟩ : S26), (⟨bt133.2.2.2.1, bt133.2.2.2.2.1⟩ : S28), bt133.2.2.2.2.2.1, bt133.2.2.2.2.2.2.1, bt133.2.2.2.2.2.2.2.1, bt133.2.2.2.2.2.2.2.2⟩ : S32), 5, (⟨0, 0, 0, 0, 0, 0, 0⟩ : S42), false⟩ : S44)] : List (S44)) : List (S44))).bind fun y146 => ((althinglaw11_some.f 2).bind fun bt149 => ((index_Attrs.f k y146 1 1 bt149.1 bt149.2.1 bt149.2.2.1 bt149.2.2.2.1 bt149.2.2.2.2.1 bt149.2.2.2.2.2.1 bt149.2.2.2.2.2.2.1 bt149.2.2.2.2.2.2.2.1 bt149.2.2.2.2.2.2.2.2 1 0 0 0 0 0 0 0).bind fun bt162 => (if bt162.1 = 6 then (if (bt162.2.1 == 3 && (bt162.2.2.1 == 0 && (bt162.2.2.2.1 == 0 && (bt162.2.2.2.2.1 == 0 && (bt162.2.2.2.2.2.1 == 0 && (bt162.2.2.2.2.2.2.1 == 0 && (bt162.2.2.2.2.2.2.2 == 0))))))) = true then ((index_Slot.f k y146 0).bind fun t171 => (some (t171 == 4))) else (some false)) else (some false)))))) = some r := h
 clear h
 replace H := Option.bind_eq_some_iff.mp H
 obtain ⟨⟨t133, t134, t135, t136, t137, t138, t139, t142, t145⟩, A10, H⟩ := H
 replace H : ((some (([(⟨(⟨0, 3⟩ : S24), 1, (⟨0, 0⟩ : S40), (⟨0, 0⟩ : S40), (⟨t133, (⟨t134, t135⟩ : S26), (⟨t136, t137⟩ : S28), t138, t139, t142, t145⟩ : S32), 5, (⟨0, 0, 0, 0, 0, 0, 0⟩ : S42), false⟩ : S44)] : List (S44)) : List (S44))).bind fun y146 => ((althinglaw11_some.f 2).bind fun bt149 => ((index_Attrs.f k y146 1 1 bt149.1 bt149.2.1 bt149.2.2.1 bt149.2.2.2.1 bt149.2.2.2.2.1 bt149.2.2.2.2.2.1 bt149.2.2.2.2.2.2.1 bt149.2.2.2.2.2.2.2.1 bt149.2.2.2.2.2.2.2.2 1 0 0 0 0 0 0 0).bind fun bt162 => (if bt162.1 = 6 then (if (bt162.2.1 == 3 && (bt162.2.2.1 == 0 && (bt162.2.2.2.1 == 0 && (bt162.2.2.2.2.1 == 0 && (bt162.2.2.2.2.2.1 == 0 && (bt162.2.2.2.2.2.2.1 == 0 && (bt162.2.2.2.2.2.2.2 == 0))))))) = true then ((index_Slot.f k y146 0).bind fun t171 => (some (t171 == 4))) else (some false)) else (some false))))) = some r := H
 have A1 := Aside0.mk A10
 clear A10
 obtain ⟨y146, hy146⟩ : ∃ y_ : List (S44), y_ = (([(⟨(⟨0, 3⟩ : S24), 1, (⟨0, 0⟩ : S40), (⟨0, 0⟩ : S40), (⟨t133, (⟨t134, t135⟩ : S26), (⟨t136, t137⟩ : S28), t138, t139, t142, t145⟩ : S32), 5, (⟨0, 0, 0, 0, 0, 0, 0⟩ : S42), false⟩ : S44)] : List (S44))) := ⟨_, rfl⟩
 replace H : ((althinglaw11_some.f 2).bind fun bt149 => ((index_Attrs.f k y146 1 1 bt149.1 bt149.2.1 bt149.2.2.1 bt149.2.2.2.1 bt149.2.2.2.2.1 bt149.2.2.2.2.2.1 bt149.2.2.2.2.2.2.1 bt149.2.2.2.2.2.2.2.1 bt149.2.2.2.2.2.2.2.2 1 0 0 0 0 0 0 0).bind fun bt162 => (if bt162.1 = 6 then (if (bt162.2.1 == 3 && (bt162.2.2.1 == 0 && (bt162.2.2.2.1 == 0 && (bt162.2.2.2.2.1 == 0 && (bt162.2.2.2.2.2.1 == 0 && (bt162.2.2.2.2.2.2.1 == 0 && (bt162.2.2.2.2.2.2.2 == 0))))))) = true then ((index_Slot.f k y146 0).bind fun t171 => (some (t171 == 4))) else (some false)) else (some false)))) = some r := by first | (rw [hy146]; with_reducible exact H) | (have H2_ := (Option.bind_some _ _).symm.trans H; rw [hy146]; with_reducible exact H2_) | (have H2_ := (Option.bind_some _ _).symm.trans H; with_reducible exact H2_) | with_reducible exact H | (rw [hy146]; exact H) | exact H
 have Ny146 := Aside0.mk hy146
 clear hy146
 replace H := Option.bind_eq_some_iff.mp H
 obtain ⟨⟨t149, t150, t151, t152, t153, t154, t155, t158, t161⟩, A20, H⟩ := H
 replace H : ((index_Attrs.f k y146 1 1 t149 t150 t151 t152 t153 t154 t155 t158 t161 1 0 0 0 0 0 0 0).bind fun bt162 => (if bt162.1 = 6 then (if (bt162.2.1 == 3 && (bt162.2.2.1 == 0 && (bt162.2.2.2.1 == 0 && (bt162.2.2.2.2.1 == 0 && (bt162.2.2.2.2.2.1 == 0 && (bt162.2.2.2.2.2.2.1 == 0 && (bt162.2.2.2.2.2.2.2 == 0))))))) = true then ((index_Slot.f k y146 0).bind fun t171 => (some (t171 == 4))) else (some false)) else (some false))) = some r := H
 have A2 := Aside0.mk A20
 clear A20
 replace H := Option.bind_eq_some_iff.mp H
 obtain ⟨⟨t162, t163, t164, t165, t166, t167, t168, t169⟩, A30, H⟩ := H
 replace H : (if t162 = 6 then (if (t163 == 3 && (t164 == 0 && (t165 == 0 && (t166 == 0 && (t167 == 0 && (t168 == 0 && (t169 == 0))))))) = true then ((index_Slot.f k y146 0).bind fun t171 => (some (t171 == 4))) else (some false)) else (some false)) = some r := H
 have A3 := Aside0.mk A30
 clear A30
 by_cases c4 : t162 = 6
 · rw [if_pos c4] at H
   have c4b0 : (t162 == 6) = true := beq_iff_eq.mpr c4
   have c4b1 : (t162 != 6) = false := bne_eq_false_iff_eq.mpr c4
   clear c4
   by_cases c5 : (t163 == 3 && (t164 == 0 && (t165 == 0 && (t166 == 0 && (t167 == 0 && (t168 == 0 && (t169 == 0))))))) = true
   · rw [if_pos c5] at H
     have c5b0 : (t163 == 3 && (t164 == 0 && (t165 == 0 && (t166 == 0 && (t167 == 0 && (t168 == 0 && (t169 == 0))))))) = true := c5
     (try (have c5b1 : decide (t163 = 3 && (t164 == 0 && (t165 == 0 && (t166 == 0 && (t167 == 0 && (t168 == 0 && (t169 == 0))))))) = true := by simpa using c5))
     (try (have c5b2 : (t163 == 3 && (t164 == 0 && (t165 == 0 && (t166 == 0 && (t167 == 0 && (t168 == 0 && (t169 == 0))))))) = true := by simpa using c5))
     clear c5
     obtain ⟨t171, A6, H⟩ := bs_ H
     obtain rfl := Option.some.inj H
     go_enter Try.func12, Try.ntmps12
     go_wp2_with (first | ((with_reducible refine gate_callee (f := 29) rfl ?_); refine goesL_ (some 5) rfl rfl Try.func29 (by kernel_rfl) rfl #[.int .i64 1] rfl (by (try simp only [List.map_toArray, List.map_cons, List.map_nil]); first | done | rfl | (simp only [List.length_drop, List.length_take]; rfl)) ?_; (with_reducible refine (althinglaw11_some.calls 1 t133 t134 t135 t136 t137 t138 t139 t142 t145 _ A1.out).mono ?_); rintro e w7 ⟨v140, v143, rfl, ho0, ho1, hb⟩; refine ⟨_, rfl, ?_⟩; have n0_ := Aside0.mk (Kd.R_lower ho0 (below_size lb_)); have n1_ := Aside0.mk (Kd.R_lower ho1 (below_size lb_)); have n2_ := Aside0.mk (below_step lb_ hb); clear HB; have HO141 := n0_; have HO144 := n1_; have HB := n2_; clear n0_ n1_ n2_; (try clear hb); (try clear hb2); (try clear hk); (try clear hi); (try clear ho0); (try clear ho1); obtain ⟨Ao8, co8, eo8⟩ := Kd.R_slice HO144.out; subst eo8; obtain ⟨Ao9, co9, eo9⟩ := Kd.R_slice HO141.out; subst eo9) | ((with_reducible refine gate_dst (N := 7) rfl ?_); refine Kd.N_lit k44 _ 44 ?hg (N' := 7) ?hd (xs := ([(⟨(⟨0, 3⟩ : S24), 1, (⟨0, 0⟩ : S40), (⟨0, 0⟩ : S40), (⟨t133, (⟨t134, t135⟩ : S26), (⟨t136, t137⟩ : S28), t138, t139, t142, t145⟩ : S32), 5, (⟨0, 0, 0, 0, 0, 0, 0⟩ : S42), false⟩ : S44)] : List (S44))) (inner := [.int .i64 0, .int .i64 3, .int .i64 1, .int .i64 0, .int .i64 0, .int .i64 0, .int .i64 0, .int .i64 t133, .int .i64 t134, .int .i64 t135, .int .i64 t136, .int .i64 t137, .int .i64 t138, .slice Ao9 t139.length co9, .slice Ao8 t142.length co8, .bool t145, .int .i64 5, .int .i64 0, .int .i64 0, .int .i64 0, .int .i64 0, .int .i64 0, .int .i64 0, .int .i64 0, .bool false]) (ok := (fun _ => True)) (okp := (fun _ => True)) ?hr ?hp (fun _ hk => hk) ((show ∀ k_, w7.heap.size ≤ k_ → (fun _ => True) k_ from fun k_ hk => trivial) _ (Nat.le_refl _)) (Below.refl _ _) (Nat.le_refl _) (by simp) ?_; (case hd => rfl); (case hg => rfl); (case hr => first | (go_simp; done) | (go_simp; rfl)); (case hp => exact (Reps.front (show Kd.FK k44 _ _ (⟨(⟨0, 3⟩ : S24), 1, (⟨0, 0⟩ : S40), (⟨0, 0⟩ : S40), (⟨t133, (⟨t134, t135⟩ : S26), (⟨t136, t137⟩ : S28), t138, t139, t142, t145⟩ : S32), 5, (⟨0, 0, 0, 0, 0, 0, 0⟩ : S42), false⟩ : S44) [.int .i64 0, .int .i64 3, .int .i64 1, .int .i64 0, .int .i64 0, .int .i64 0, .int .i64 0, .int .i64 t133, .int .i64 t134, .int .i64 t135, .int .i64 t136, .int .i64 t137, .int .i64 t138, .slice Ao9 t139.length co9, .slice Ao8 t142.length co8, .bool t145, .int .i64 5, .int .i64 0, .int .i64 0, .int .i64 0, .int .i64 0, .int .i64 0, .int .i64 0, .int .i64 0, .bool false] from (k44_mkF _ _ (⟨(⟨0, 3⟩ : S24), 1, (⟨0, 0⟩ : S40), (⟨0, 0⟩ : S40), (⟨t133, (⟨t134, t135⟩ : S26), (⟨t136, t137⟩ : S28), t138, t139, t142, t145⟩ : S32), 5, (⟨0, 0, 0, 0, 0, 0, 0⟩ : S42), false⟩ : S44) (Kd.R_reads' (Kd.R_mono (ok' := (fun _ => True)) (HO141.out) (fun k_ hk => trivial))).2.1 (Kd.R_F (Kd.R_mono (ok' := (fun _ => True)) (HO141.out) (fun k_ hk => trivial))) (Kd.R_reads' (Kd.R_mono (ok' := (fun _ => True)) (HO144.out) (fun k_ hk => trivial))).2.1 (Kd.R_F (Kd.R_mono (ok' := (fun _ => True)) (HO144.out) (fun k_ hk => trivial))))) rfl (Reps.none _ _) rfl)); intro v147 w10 ho11 hb hg_ hnew_; clear hg_ hnew_; (first | rw [← Ny146.out] at ho11 | (simp only [Int.reduceToNat] at ho11; rw [← Ny146.out] at ho11)); have n0_ := Aside0.mk (Kd.N_lower ho11 (below_size lb_)); have n1_ := Aside0.mk (below_step lb_ hb); clear HB; clear HO141; clear HO144; have HO148 := n0_; have HB := n1_; clear n0_ n1_; clear hb ho11) | ((with_reducible refine gate_callee (f := 29) rfl ?_); refine goesL_ (some 11) rfl rfl Try.func29 (by kernel_rfl) rfl #[.int .i64 2] rfl (by (try simp only [List.map_toArray, List.map_cons, List.map_nil]); first | done | rfl | (simp only [List.length_drop, List.length_take]; rfl)) ?_; (with_reducible refine (althinglaw11_some.calls 2 t149 t150 t151 t152 t153 t154 t155 t158 t161 _ A2.out).mono ?_); rintro e w12 ⟨v156, v159, rfl, ho0, ho1, hb⟩; refine ⟨_, rfl, ?_⟩; have n0_ := Aside0.mk (Kd.N_mono (Kd.N_told (Kd.N_told (Kd.N_old (kn_ HO148.out) hb) (Kd.R_base ho0)) (Kd.R_base ho1)) (fun _ h_ => h_.1)); have n1_ := Aside0.mk (Kd.R_lower ho0 (below_size lb_)); have n2_ := Aside0.mk (Kd.R_lower ho1 (below_size lb_)); have n3_ := Aside0.mk (below_step lb_ hb); clear HO148; clear HB; have HO148 := n0_; have HO157 := n1_; have HO160 := n2_; have HB := n3_; clear n0_ n1_ n2_ n3_; (try clear hb); (try clear hb2); (try clear hk); (try clear hi); (try clear ho0); (try clear ho1); obtain ⟨Ao13, co13, eo13⟩ := Kd.N_slice HO148.out; subst eo13; obtain ⟨Ao14, co14, eo14⟩ := Kd.R_slice HO157.out; subst eo14; obtain ⟨Ao15, co15, eo15⟩ := Kd.R_slice HO160.out; subst eo15) | ((with_reducible refine gate_callee (f := 21) rfl ?_); refine goesL_ (some 13) rfl rfl Try.func21 (by kernel_rfl) rfl #[.slice Ao13 y146.length co13, .agg #[.int .i64 1, .int .i64 1], .agg #[.int .i64 t149, .int .i64 t150, .int .i64 t151, .int .i64 t152, .int .i64 t153, .int .i64 t154, .slice Ao14 t155.length co14, .slice Ao15 t158.length co15, .bool t161], .int .i64 1, .agg #[.int .i64 0, .int .i64 0, .int .i64 0, .int .i64 0, .int .i64 0, .int .i64 0, .int .i64 0]] rfl (by (try simp only [List.map_toArray, List.map_cons, List.map_nil]); first | done | rfl | (simp only [List.length_drop, List.length_take]; rfl)) ?_; (with_reducible refine (index_Attrs.calls k _ _ y146 1 1 t149 t150 t151 t152 t153 t154 _ _ t155 _ _ t158 t161 1 0 0 0 0 0 0 0 t162 t163 t164 t165 t166 t167 t168 t169 _ ?side1 ?side2 ?side3 ?side4 ?side5 ?side6 A3.out).mono ?_); (case side1 => repeat (first | exact (Kd.N_reads' HO148.out).2.2 | (with_reducible refine Kd.C_alloc ?_ _) | (with_reducible refine Kd.C_drewN ?_ _) | (with_reducible refine Kd.C_drew ?_))); (case side2 => exact (Kd.N_reads' HO148.out).2.1); (case side3 => repeat (first | exact (Kd.R_reads' HO157.out).2.2 | (with_reducible refine Kd.C_alloc ?_ _) | (with_reducible refine Kd.C_drewN ?_ _) | (with_reducible refine Kd.C_drew ?_))); (case side4 => exact (Kd.R_reads' HO157.out).2.1); (case side5 => repeat (first | exact (Kd.R_reads' HO160.out).2.2 | (with_reducible refine Kd.C_alloc ?_ _) | (with_reducible refine Kd.C_drewN ?_ _) | (with_reducible refine Kd.C_drew ?_))); (case side6 => exact (Kd.R_reads' HO160.out).2.1); rintro e w16 ⟨rfl, hb⟩; refine ⟨_, rfl, ?_⟩; have n0_ := Aside0.mk (Kd.N_below (kn_ HO148.out) hb); have n1_ := Aside0.mk (Kd.R_below (kr_ HO157.out) hb); have n2_ := Aside0.mk (Kd.R_below (kr_ HO160.out) hb); have n3_ := Aside0.mk (below_step lb_ hb); clear HO148; clear HO157; clear HO160; clear HB; have HO148 := n0_; have HO157 := n1_; have HO160 := n2_; have HB := n3_; clear n0_ n1_ n2_ n3_; (try clear hb); (try clear hb2); (try clear hk); (try clear hi)) | ((with_reducible refine gate_dst (N := 3) rfl ?_); refine alloc_mid_store_event (v := ?vvw17) ?hg1 (N := 3) ?hd1 ?hgm ?hg2 ?hd2 ?ho2 (cs0 := #[.int .i64 0, .int .i64 0, .int .i64 0, .int .i64 0, .int .i64 0, .int .i64 0, .int .i64 0]) (cs := #[.int .i64 t163, .int .i64 t164, .int .i64 t165, .int .i64 t166, .int .i64 t167, .int .i64 t168, .int .i64 t169]) (t := 42) (x := ?xxw17) ?hr ?hrm ?hp ?hx ?hs ?h1 ?ht ?_; (case hg1 => rfl); (case hgm => rfl); (case hd1 => rfl); (case hg2 => rfl); (case hd2 => rfl); (case ho2 => rfl); (case hr => first | (go_simp; done) | (go_simp; rfl)); (case hrm => first | rfl | (go_simp; done) | (go_simp; rfl)); (case hp => rfl); (case hx => rfl); (case hs => rfl); (case h1 => rfl); (case ht => kernel_rfl); intro gb170 hg w17 hbox hb; have n0_ := Aside0.mk (Kd.N_below (Kd.N_elderB (kn_ HO148.out) gb170 (Nat.le_of_eq hg.symm)) hb); have n1_ := Aside0.mk (Kd.R_below (kr_ HO157.out) hb); have n2_ := Aside0.mk (Kd.R_below (kr_ HO160.out) hb); have n3_ := Aside0.mk (below_step lb_ hb); have n4_ := Aside0.mk (hbox); have n5_ := Aside0.mk ((by rw [hg]; exact (below_size lb_) : w.heap.size ≤ gb170)); have n6_ := Aside0.mk ((by rw [hg]; exact (below_size lb_) : w.heap.size ≤ gb170)); clear HO148; clear HO157; clear HO160; clear HB; have HO148 := n0_; have HO157 := n1_; have HO160 := n2_; have HB := n3_; have BK170 := n4_; have GW170 := n5_; have GE170 := n6_; clear n0_ n1_ n2_ n3_ n4_ n5_ n6_; clear hb hbox hg) | ((with_reducible refine gate_dst (N := 19) rfl ?_); (try (refine gate_guard (by rfl) ?_; dsimp only)); refine blk_load_event ?lg (N := 19) ?ld (t := 42) (x := ?lxxz18) ?lo (g := gb170) ?lx (cs := _) BK170.out ?lD ?lt ?_; (case lg => rfl); (case ld => rfl); (case lo => rfl); (case lx => first | rfl | (go_simp; done) | (go_simp; rfl)); (case lD => exact ⟨_, Try.underlying42, rfl⟩); (case lt => kernel_rfl)) | (go_at_call 19; (with_reducible refine (index_Slot.calls k _ _ y146 0 t171 _ ?side1 ?side2 A6.out).mono ?_); (case side1 => repeat (first | exact (Kd.N_reads' HO148.out).2.2 | (with_reducible refine Kd.C_alloc ?_ _) | (with_reducible refine Kd.C_drewN ?_ _) | (with_reducible refine Kd.C_drew ?_))); (case side2 => exact (Kd.N_reads' HO148.out).2.1); rintro e w19 ⟨rfl, hb⟩; have n0_ := Aside0.mk (Kd.N_below (kn_ HO148.out) hb); have n1_ := Aside0.mk (Kd.R_below (kr_ HO157.out) hb); have n2_ := Aside0.mk (Kd.R_below (kr_ HO160.out) hb); have n3_ := Aside0.mk (blk_below (kb_ BK170.out) hb); have n4_ := Aside0.mk (below_step (by repeat (first | (with_reducible first | exact HB.out | apply below_alloc | apply pw_below_drewN | apply below_drew1 | refine below_set ?_ GE170.out) | exact HB.out)) hb); clear HO148; clear HO157; clear HO160; clear BK170; clear HB; have HO148 := n0_; have HO157 := n1_; have HO160 := n2_; have BK170 := n3_; have HB := n4_; clear n0_ n1_ n2_ n3_ n4_; (try clear hb); (try clear hb2); (try clear hk); (try clear hi)))
     go_ret
     exact ⟨by first | rfl | (simp [errW_none, errW_some] <;> rfl) | (simp [*, errW_none, errW_some] <;> rfl), by repeat (first | (with_reducible first | exact HB.out | apply below_alloc | apply pw_below_drewN | apply below_drew1 | refine below_set ?_ GE170.out) | exact HB.out)⟩
   · rw [if_neg c5] at H
     have c5b0 : (t163 == 3 && (t164 == 0 && (t165 == 0 && (t166 == 0 && (t167 == 0 && (t168 == 0 && (t169 == 0))))))) = false := by simpa using c5
     (try (have c5b1 : decide (t163 = 3 && (t164 == 0 && (t165 == 0 && (t166 == 0 && (t167 == 0 && (t168 == 0 && (t169 == 0))))))) = false := by simpa using c5))
     (try (have c5b2 : (t163 == 3 && (t164 == 0 && (t165 == 0 && (t166 == 0 && (t167 == 0 && (t168 == 0 && (t169 == 0))))))) = false := by simpa using c5))
     (try (have c5b3 : ¬ (t163 = 3 && (t164 == 0 && (t165 == 0 && (t166 == 0 && (t167 == 0 && (t168 == 0 && (t169 == 0))))))) := by simpa using c5))
     clear c5
     obtain rfl := Option.some.inj H
     go_enter Try.func12, Try.ntmps12
     go_wp2_with (first | ((with_reducible refine gate_callee (f := 29) rfl ?_); refine goesL_ (some 5) rfl rfl Try.func29 (by kernel_rfl) rfl #[.int .i64 1] rfl (by (try simp only [List.map_toArray, List.map_cons, List.map_nil]); first | done | rfl | (simp only [List.length_drop, List.length_take]; rfl)) ?_; (with_reducible refine (althinglaw11_some.calls 1 t133 t134 t135 t136 t137 t138 t139 t142 t145 _ A1.out).mono ?_); rintro e w20 ⟨v140, v143, rfl, ho0, ho1, hb⟩; refine ⟨_, rfl, ?_⟩; have n0_ := Aside0.mk (Kd.R_lower ho0 (below_size lb_)); have n1_ := Aside0.mk (Kd.R_lower ho1 (below_size lb_)); have n2_ := Aside0.mk (below_step lb_ hb); clear HB; have HO141 := n0_; have HO144 := n1_; have HB := n2_; clear n0_ n1_ n2_; (try clear hb); (try clear hb2); (try clear hk); (try clear hi); (try clear ho0); (try clear ho1); obtain ⟨Ao21, co21, eo21⟩ := Kd.R_slice HO144.out; subst eo21; obtain ⟨Ao22, co22, eo22⟩ := Kd.R_slice HO141.out; subst eo22) | ((with_reducible refine gate_dst (N := 7) rfl ?_); refine Kd.N_lit k44 _ 44 ?hg (N' := 7) ?hd (xs := ([(⟨(⟨0, 3⟩ : S24), 1, (⟨0, 0⟩ : S40), (⟨0, 0⟩ : S40), (⟨t133, (⟨t134, t135⟩ : S26), (⟨t136, t137⟩ : S28), t138, t139, t142, t145⟩ : S32), 5, (⟨0, 0, 0, 0, 0, 0, 0⟩ : S42), false⟩ : S44)] : List (S44))) (inner := [.int .i64 0, .int .i64 3, .int .i64 1, .int .i64 0, .int .i64 0, .int .i64 0, .int .i64 0, .int .i64 t133, .int .i64 t134, .int .i64 t135, .int .i64 t136, .int .i64 t137, .int .i64 t138, .slice Ao22 t139.length co22, .slice Ao21 t142.length co21, .bool t145, .int .i64 5, .int .i64 0, .int .i64 0, .int .i64 0, .int .i64 0, .int .i64 0, .int .i64 0, .int .i64 0, .bool false]) (ok := (fun _ => True)) (okp := (fun _ => True)) ?hr ?hp (fun _ hk => hk) ((show ∀ k_, w20.heap.size ≤ k_ → (fun _ => True) k_ from fun k_ hk => trivial) _ (Nat.le_refl _)) (Below.refl _ _) (Nat.le_refl _) (by simp) ?_; (case hd => rfl); (case hg => rfl); (case hr => first | (go_simp; done) | (go_simp; rfl)); (case hp => exact (Reps.front (show Kd.FK k44 _ _ (⟨(⟨0, 3⟩ : S24), 1, (⟨0, 0⟩ : S40), (⟨0, 0⟩ : S40), (⟨t133, (⟨t134, t135⟩ : S26), (⟨t136, t137⟩ : S28), t138, t139, t142, t145⟩ : S32), 5, (⟨0, 0, 0, 0, 0, 0, 0⟩ : S42), false⟩ : S44) [.int .i64 0, .int .i64 3, .int .i64 1, .int .i64 0, .int .i64 0, .int .i64 0, .int .i64 0, .int .i64 t133, .int .i64 t134, .int .i64 t135, .int .i64 t136, .int .i64 t137, .int .i64 t138, .slice Ao22 t139.length co22, .slice Ao21 t142.length co21, .bool t145, .int .i64 5, .int .i64 0, .int .i64 0, .int .i64 0, .int .i64 0, .int .i64 0, .int .i64 0, .int .i64 0, .bool false] from (k44_mkF _ _ (⟨(⟨0, 3⟩ : S24), 1, (⟨0, 0⟩ : S40), (⟨0, 0⟩ : S40), (⟨t133, (⟨t134, t135⟩ : S26), (⟨t136, t137⟩ : S28), t138, t139, t142, t145⟩ : S32), 5, (⟨0, 0, 0, 0, 0, 0, 0⟩ : S42), false⟩ : S44) (Kd.R_reads' (Kd.R_mono (ok' := (fun _ => True)) (HO141.out) (fun k_ hk => trivial))).2.1 (Kd.R_F (Kd.R_mono (ok' := (fun _ => True)) (HO141.out) (fun k_ hk => trivial))) (Kd.R_reads' (Kd.R_mono (ok' := (fun _ => True)) (HO144.out) (fun k_ hk => trivial))).2.1 (Kd.R_F (Kd.R_mono (ok' := (fun _ => True)) (HO144.out) (fun k_ hk => trivial))))) rfl (Reps.none _ _) rfl)); intro v147 w23 ho24 hb hg_ hnew_; clear hg_ hnew_; (first | rw [← Ny146.out] at ho24 | (simp only [Int.reduceToNat] at ho24; rw [← Ny146.out] at ho24)); have n0_ := Aside0.mk (Kd.N_lower ho24 (below_size lb_)); have n1_ := Aside0.mk (below_step lb_ hb); clear HB; clear HO141; clear HO144; have HO148 := n0_; have HB := n1_; clear n0_ n1_; clear hb ho24) | ((with_reducible refine gate_callee (f := 29) rfl ?_); refine goesL_ (some 11) rfl rfl Try.func29 (by kernel_rfl) rfl #[.int .i64 2] rfl (by (try simp only [List.map_toArray, List.map_cons, List.map_nil]); first | done | rfl | (simp only [List.length_drop, List.length_take]; rfl)) ?_; (with_reducible refine (althinglaw11_some.calls 2 t149 t150 t151 t152 t153 t154 t155 t158 t161 _ A2.out).mono ?_); rintro e w25 ⟨v156, v159, rfl, ho0, ho1, hb⟩; refine ⟨_, rfl, ?_⟩; have n0_ := Aside0.mk (Kd.N_mono (Kd.N_told (Kd.N_told (Kd.N_old (kn_ HO148.out) hb) (Kd.R_base ho0)) (Kd.R_base ho1)) (fun _ h_ => h_.1)); have n1_ := Aside0.mk (Kd.R_lower ho0 (below_size lb_)); have n2_ := Aside0.mk (Kd.R_lower ho1 (below_size lb_)); have n3_ := Aside0.mk (below_step lb_ hb); clear HO148; clear HB; have HO148 := n0_; have HO157 := n1_; have HO160 := n2_; have HB := n3_; clear n0_ n1_ n2_ n3_; (try clear hb); (try clear hb2); (try clear hk); (try clear hi); (try clear ho0); (try clear ho1); obtain ⟨Ao26, co26, eo26⟩ := Kd.N_slice HO148.out; subst eo26; obtain ⟨Ao27, co27, eo27⟩ := Kd.R_slice HO157.out; subst eo27; obtain ⟨Ao28, co28, eo28⟩ := Kd.R_slice HO160.out; subst eo28) | ((with_reducible refine gate_callee (f := 21) rfl ?_); refine goesL_ (some 13) rfl rfl Try.func21 (by kernel_rfl) rfl #[.slice Ao26 y146.length co26, .agg #[.int .i64 1, .int .i64 1], .agg #[.int .i64 t149, .int .i64 t150, .int .i64 t151, .int .i64 t152, .int .i64 t153, .int .i64 t154, .slice Ao27 t155.length co27, .slice Ao28 t158.length co28, .bool t161], .int .i64 1, .agg #[.int .i64 0, .int .i64 0, .int .i64 0, .int .i64 0, .int .i64 0, .int .i64 0, .int .i64 0]] rfl (by (try simp only [List.map_toArray, List.map_cons, List.map_nil]); first | done | rfl | (simp only [List.length_drop, List.length_take]; rfl)) ?_; (with_reducible refine (index_Attrs.calls k _ _ y146 1 1 t149 t150 t151 t152 t153 t154 _ _ t155 _ _ t158 t161 1 0 0 0 0 0 0 0 t162 t163 t164 t165 t166 t167 t168 t169 _ ?side1 ?side2 ?side3 ?side4 ?side5 ?side6 A3.out).mono ?_); (case side1 => repeat (first | exact (Kd.N_reads' HO148.out).2.2 | (with_reducible refine Kd.C_alloc ?_ _) | (with_reducible refine Kd.C_drewN ?_ _) | (with_reducible refine Kd.C_drew ?_))); (case side2 => exact (Kd.N_reads' HO148.out).2.1); (case side3 => repeat (first | exact (Kd.R_reads' HO157.out).2.2 | (with_reducible refine Kd.C_alloc ?_ _) | (with_reducible refine Kd.C_drewN ?_ _) | (with_reducible refine Kd.C_drew ?_))); (case side4 => exact (Kd.R_reads' HO157.out).2.1); (case side5 => repeat (first | exact (Kd.R_reads' HO160.out).2.2 | (with_reducible refine Kd.C_alloc ?_ _) | (with_reducible refine Kd.C_drewN ?_ _) | (with_reducible refine Kd.C_drew ?_))); (case side6 => exact (Kd.R_reads' HO160.out).2.1); rintro e w29 ⟨rfl, hb⟩; refine ⟨_, rfl, ?_⟩; have n0_ := Aside0.mk (Kd.N_below (kn_ HO148.out) hb); have n1_ := Aside0.mk (Kd.R_below (kr_ HO157.out) hb); have n2_ := Aside0.mk (Kd.R_below (kr_ HO160.out) hb); have n3_ := Aside0.mk (below_step lb_ hb); clear HO148; clear HO157; clear HO160; clear HB; have HO148 := n0_; have HO157 := n1_; have HO160 := n2_; have HB := n3_; clear n0_ n1_ n2_ n3_; (try clear hb); (try clear hb2); (try clear hk); (try clear hi)) | ((with_reducible refine gate_dst (N := 3) rfl ?_); refine alloc_mid_store_event (v := ?vvw30) ?hg1 (N := 3) ?hd1 ?hgm ?hg2 ?hd2 ?ho2 (cs0 := #[.int .i64 0, .int .i64 0, .int .i64 0, .int .i64 0, .int .i64 0, .int .i64 0, .int .i64 0]) (cs := #[.int .i64 t163, .int .i64 t164, .int .i64 t165, .int .i64 t166, .int .i64 t167, .int .i64 t168, .int .i64 t169]) (t := 42) (x := ?xxw30) ?hr ?hrm ?hp ?hx ?hs ?h1 ?ht ?_; (case hg1 => rfl); (case hgm => rfl); (case hd1 => rfl); (case hg2 => rfl); (case hd2 => rfl); (case ho2 => rfl); (case hr => first | (go_simp; done) | (go_simp; rfl)); (case hrm => first | rfl | (go_simp; done) | (go_simp; rfl)); (case hp => rfl); (case hx => rfl); (case hs => rfl); (case h1 => rfl); (case ht => kernel_rfl); intro gb170 hg w30 hbox hb; have n0_ := Aside0.mk (Kd.N_below (Kd.N_elderB (kn_ HO148.out) gb170 (Nat.le_of_eq hg.symm)) hb); have n1_ := Aside0.mk (Kd.R_below (kr_ HO157.out) hb); have n2_ := Aside0.mk (Kd.R_below (kr_ HO160.out) hb); have n3_ := Aside0.mk (below_step lb_ hb); have n4_ := Aside0.mk (hbox); have n5_ := Aside0.mk ((by rw [hg]; exact (below_size lb_) : w.heap.size ≤ gb170)); have n6_ := Aside0.mk ((by rw [hg]; exact (below_size lb_) : w.heap.size ≤ gb170)); clear HO148; clear HO157; clear HO160; clear HB; have HO148 := n0_; have HO157 := n1_; have HO160 := n2_; have HB := n3_; have BK170 := n4_; have GW170 := n5_; have GE170 := n6_; clear n0_ n1_ n2_ n3_ n4_ n5_ n6_; clear hb hbox hg) | ((with_reducible refine gate_dst (N := 19) rfl ?_); (try (refine gate_guard (by rfl) ?_; dsimp only)); refine blk_load_event ?lg (N := 19) ?ld (t := 42) (x := ?lxxz31) ?lo (g := gb170) ?lx (cs := _) BK170.out ?lD ?lt ?_; (case lg => rfl); (case ld => rfl); (case lo => rfl); (case lx => first | rfl | (go_simp; done) | (go_simp; rfl)); (case lD => exact ⟨_, Try.underlying42, rfl⟩); (case lt => kernel_rfl)))
     go_ret
     exact ⟨by first | rfl | (simp [errW_none, errW_some] <;> rfl) | (simp [*, errW_none, errW_some] <;> rfl), by repeat (first | (with_reducible first | exact HB.out | apply below_alloc | apply pw_below_drewN | apply below_drew1 | refine below_set ?_ GE170.out) | exact HB.out)⟩
 · rw [if_neg c4] at H
   have c4b0 : (t162 == 6) = false := beq_eq_false_iff_ne.mpr c4
   have c4b1 : (t162 != 6) = true := bne_iff_ne.mpr c4
   obtain rfl := Option.some.inj H
   go_enter Try.func12, Try.ntmps12
   go_wp2_with (first | ((with_reducible refine gate_callee (f := 29) rfl ?_); refine goesL_ (some 5) rfl rfl Try.func29 (by kernel_rfl) rfl #[.int .i64 1] rfl (by (try simp only [List.map_toArray, List.map_cons, List.map_nil]); first | done | rfl | (simp only [List.length_drop, List.length_take]; rfl)) ?_; (with_reducible refine (althinglaw11_some.calls 1 t133 t134 t135 t136 t137 t138 t139 t142 t145 _ A1.out).mono ?_); rintro e w32 ⟨v140, v143, rfl, ho0, ho1, hb⟩; refine ⟨_, rfl, ?_⟩; have n0_ := Aside0.mk (Kd.R_lower ho0 (below_size lb_)); have n1_ := Aside0.mk (Kd.R_lower ho1 (below_size lb_)); have n2_ := Aside0.mk (below_step lb_ hb); clear HB; have HO141 := n0_; have HO144 := n1_; have HB := n2_; clear n0_ n1_ n2_; (try clear hb); (try clear hb2); (try clear hk); (try clear hi); (try clear ho0); (try clear ho1); obtain ⟨Ao33, co33, eo33⟩ := Kd.R_slice HO144.out; subst eo33; obtain ⟨Ao34, co34, eo34⟩ := Kd.R_slice HO141.out; subst eo34) | ((with_reducible refine gate_dst (N := 7) rfl ?_); refine Kd.N_lit k44 _ 44 ?hg (N' := 7) ?hd (xs := ([(⟨(⟨0, 3⟩ : S24), 1, (⟨0, 0⟩ : S40), (⟨0, 0⟩ : S40), (⟨t133, (⟨t134, t135⟩ : S26), (⟨t136, t137⟩ : S28), t138, t139, t142, t145⟩ : S32), 5, (⟨0, 0, 0, 0, 0, 0, 0⟩ : S42), false⟩ : S44)] : List (S44))) (inner := [.int .i64 0, .int .i64 3, .int .i64 1, .int .i64 0, .int .i64 0, .int .i64 0, .int .i64 0, .int .i64 t133, .int .i64 t134, .int .i64 t135, .int .i64 t136, .int .i64 t137, .int .i64 t138, .slice Ao34 t139.length co34, .slice Ao33 t142.length co33, .bool t145, .int .i64 5, .int .i64 0, .int .i64 0, .int .i64 0, .int .i64 0, .int .i64 0, .int .i64 0, .int .i64 0, .bool false]) (ok := (fun _ => True)) (okp := (fun _ => True)) ?hr ?hp (fun _ hk => hk) ((show ∀ k_, w32.heap.size ≤ k_ → (fun _ => True) k_ from fun k_ hk => trivial) _ (Nat.le_refl _)) (Below.refl _ _) (Nat.le_refl _) (by simp) ?_; (case hd => rfl); (case hg => rfl); (case hr => first | (go_simp; done) | (go_simp; rfl)); (case hp => exact (Reps.front (show Kd.FK k44 _ _ (⟨(⟨0, 3⟩ : S24), 1, (⟨0, 0⟩ : S40), (⟨0, 0⟩ : S40), (⟨t133, (⟨t134, t135⟩ : S26), (⟨t136, t137⟩ : S28), t138, t139, t142, t145⟩ : S32), 5, (⟨0, 0, 0, 0, 0, 0, 0⟩ : S42), false⟩ : S44) [.int .i64 0, .int .i64 3, .int .i64 1, .int .i64 0, .int .i64 0, .int .i64 0, .int .i64 0, .int .i64 t133, .int .i64 t134, .int .i64 t135, .int .i64 t136, .int .i64 t137, .int .i64 t138, .slice Ao34 t139.length co34, .slice Ao33 t142.length co33, .bool t145, .int .i64 5, .int .i64 0, .int .i64 0, .int .i64 0, .int .i64 0, .int .i64 0, .int .i64 0, .int .i64 0, .bool false] from (k44_mkF _ _ (⟨(⟨0, 3⟩ : S24), 1, (⟨0, 0⟩ : S40), (⟨0, 0⟩ : S40), (⟨t133, (⟨t134, t135⟩ : S26), (⟨t136, t137⟩ : S28), t138, t139, t142, t145⟩ : S32), 5, (⟨0, 0, 0, 0, 0, 0, 0⟩ : S42), false⟩ : S44) (Kd.R_reads' (Kd.R_mono (ok' := (fun _ => True)) (HO141.out) (fun k_ hk => trivial))).2.1 (Kd.R_F (Kd.R_mono (ok' := (fun _ => True)) (HO141.out) (fun k_ hk => trivial))) (Kd.R_reads' (Kd.R_mono (ok' := (fun _ => True)) (HO144.out) (fun k_ hk => trivial))).2.1 (Kd.R_F (Kd.R_mono (ok' := (fun _ => True)) (HO144.out) (fun k_ hk => trivial))))) rfl (Reps.none _ _) rfl)); intro v147 w35 ho36 hb hg_ hnew_; clear hg_ hnew_; (first | rw [← Ny146.out] at ho36 | (simp only [Int.reduceToNat] at ho36; rw [← Ny146.out] at ho36)); have n0_ := Aside0.mk (Kd.N_lower ho36 (below_size lb_)); have n1_ := Aside0.mk (below_step lb_ hb); clear HB; clear HO141; clear HO144; have HO148 := n0_; have HB := n1_; clear n0_ n1_; clear hb ho36) | ((with_reducible refine gate_callee (f := 29) rfl ?_); refine goesL_ (some 11) rfl rfl Try.func29 (by kernel_rfl) rfl #[.int .i64 2] rfl (by (try simp only [List.map_toArray, List.map_cons, List.map_nil]); first | done | rfl | (simp only [List.length_drop, List.length_take]; rfl)) ?_; (with_reducible refine (althinglaw11_some.calls 2 t149 t150 t151 t152 t153 t154 t155 t158 t161 _ A2.out).mono ?_); rintro e w37 ⟨v156, v159, rfl, ho0, ho1, hb⟩; refine ⟨_, rfl, ?_⟩; have n0_ := Aside0.mk (Kd.N_mono (Kd.N_told (Kd.N_told (Kd.N_old (kn_ HO148.out) hb) (Kd.R_base ho0)) (Kd.R_base ho1)) (fun _ h_ => h_.1)); have n1_ := Aside0.mk (Kd.R_lower ho0 (below_size lb_)); have n2_ := Aside0.mk (Kd.R_lower ho1 (below_size lb_)); have n3_ := Aside0.mk (below_step lb_ hb); clear HO148; clear HB; have HO148 := n0_; have HO157 := n1_; have HO160 := n2_; have HB := n3_; clear n0_ n1_ n2_ n3_; (try clear hb); (try clear hb2); (try clear hk); (try clear hi); (try clear ho0); (try clear ho1); obtain ⟨Ao38, co38, eo38⟩ := Kd.N_slice HO148.out; subst eo38; obtain ⟨Ao39, co39, eo39⟩ := Kd.R_slice HO157.out; subst eo39; obtain ⟨Ao40, co40, eo40⟩ := Kd.R_slice HO160.out; subst eo40) | ((with_reducible refine gate_callee (f := 21) rfl ?_); refine goesL_ (some 13) rfl rfl Try.func21 (by kernel_rfl) rfl #[.slice Ao38 y146.length co38, .agg #[.int .i64 1, .int .i64 1], .agg #[.int .i64 t149, .int .i64 t150, .int .i64 t151, .int .i64 t152, .int .i64 t153, .int .i64 t154, .slice Ao39 t155.length co39, .slice Ao40 t158.length co40, .bool t161], .int .i64 1, .agg #[.int .i64 0, .int .i64 0, .int .i64 0, .int .i64 0, .int .i64 0, .int .i64 0, .int .i64 0]] rfl (by (try simp only [List.map_toArray, List.map_cons, List.map_nil]); first | done | rfl | (simp only [List.length_drop, List.length_take]; rfl)) ?_; (with_reducible refine (index_Attrs.calls k _ _ y146 1 1 t149 t150 t151 t152 t153 t154 _ _ t155 _ _ t158 t161 1 0 0 0 0 0 0 0 t162 t163 t164 t165 t166 t167 t168 t169 _ ?side1 ?side2 ?side3 ?side4 ?side5 ?side6 A3.out).mono ?_); (case side1 => repeat (first | exact (Kd.N_reads' HO148.out).2.2 | (with_reducible refine Kd.C_alloc ?_ _) | (with_reducible refine Kd.C_drewN ?_ _) | (with_reducible refine Kd.C_drew ?_))); (case side2 => exact (Kd.N_reads' HO148.out).2.1); (case side3 => repeat (first | exact (Kd.R_reads' HO157.out).2.2 | (with_reducible refine Kd.C_alloc ?_ _) | (with_reducible refine Kd.C_drewN ?_ _) | (with_reducible refine Kd.C_drew ?_))); (case side4 => exact (Kd.R_reads' HO157.out).2.1); (case side5 => repeat (first | exact (Kd.R_reads' HO160.out).2.2 | (with_reducible refine Kd.C_alloc ?_ _) | (with_reducible refine Kd.C_drewN ?_ _) | (with_reducible refine Kd.C_drew ?_))); (case side6 => exact (Kd.R_reads' HO160.out).2.1); rintro e w41 ⟨rfl, hb⟩; refine ⟨_, rfl, ?_⟩; have n0_ := Aside0.mk (Kd.N_below (kn_ HO148.out) hb); have n1_ := Aside0.mk (Kd.R_below (kr_ HO157.out) hb); have n2_ := Aside0.mk (Kd.R_below (kr_ HO160.out) hb); have n3_ := Aside0.mk (below_step lb_ hb); clear HO148; clear HO157; clear HO160; clear HB; have HO148 := n0_; have HO157 := n1_; have HO160 := n2_; have HB := n3_; clear n0_ n1_ n2_ n3_; (try clear hb); (try clear hb2); (try clear hk); (try clear hi)) | ((with_reducible refine gate_dst (N := 3) rfl ?_); refine alloc_mid_store_event (v := ?vvw42) ?hg1 (N := 3) ?hd1 ?hgm ?hg2 ?hd2 ?ho2 (cs0 := #[.int .i64 0, .int .i64 0, .int .i64 0, .int .i64 0, .int .i64 0, .int .i64 0, .int .i64 0]) (cs := #[.int .i64 t163, .int .i64 t164, .int .i64 t165, .int .i64 t166, .int .i64 t167, .int .i64 t168, .int .i64 t169]) (t := 42) (x := ?xxw42) ?hr ?hrm ?hp ?hx ?hs ?h1 ?ht ?_; (case hg1 => rfl); (case hgm => rfl); (case hd1 => rfl); (case hg2 => rfl); (case hd2 => rfl); (case ho2 => rfl); (case hr => first | (go_simp; done) | (go_simp; rfl)); (case hrm => first | rfl | (go_simp; done) | (go_simp; rfl)); (case hp => rfl); (case hx => rfl); (case hs => rfl); (case h1 => rfl); (case ht => kernel_rfl); intro gb170 hg w42 hbox hb; have n0_ := Aside0.mk (Kd.N_below (Kd.N_elderB (kn_ HO148.out) gb170 (Nat.le_of_eq hg.symm)) hb); have n1_ := Aside0.mk (Kd.R_below (kr_ HO157.out) hb); have n2_ := Aside0.mk (Kd.R_below (kr_ HO160.out) hb); have n3_ := Aside0.mk (below_step lb_ hb); have n4_ := Aside0.mk (hbox); have n5_ := Aside0.mk ((by rw [hg]; exact (below_size lb_) : w.heap.size ≤ gb170)); have n6_ := Aside0.mk ((by rw [hg]; exact (below_size lb_) : w.heap.size ≤ gb170)); clear HO148; clear HO157; clear HO160; clear HB; have HO148 := n0_; have HO157 := n1_; have HO160 := n2_; have HB := n3_; have BK170 := n4_; have GW170 := n5_; have GE170 := n6_; clear n0_ n1_ n2_ n3_ n4_ n5_ n6_; clear hb hbox hg))
   go_ret
   exact ⟨by first | rfl | (simp [errW_none, errW_some] <;> rfl) | (simp [*, errW_none, errW_some] <;> rfl), by repeat (first | (with_reducible first | exact HB.out | apply below_alloc | apply pw_below_drewN | apply below_drew1 | refine below_set ?_ GE170.out) | exact HB.out)⟩
end Go.Proofs.Ytklbmdakoeoplaa.X
end
section
namespace Go.Proofs.Ytklbmdakoeoplaa.X
open Go.RowKit Go.Proofs.YtklbmdakoeoplaaW.PrintWords Go.Proofs.YtklbmdakoeoplaaW.PrintLast Go.Proofs.YtklbmdakoeoplaaW.PrintMore
attribute [local go_sem] max2_int min2_int max_two min_two max_three min_three max_four min_four   -- for this text's walks alone
set_option linter.unusedVariables false
set_option linter.unusedSimpArgs false
/-! ### althinglaw11_cloned: function 30 -/
def althinglaw11_cloned.f (a0_0 : Int) (a0_1 : Int) (a0_2 : Int) (a0_3 : Int) (a0_4 : Int) (a0_5 : Int) (l0_6 : List (S61)) (l0_7 : List (S46)) (a0_8 : Bool) : Option (Int × Int × Int × Int × Int × Int × (List (S61)) × (List (S46)) × Bool) := (some (([] : List (S61)) : List (S61))).bind fun y174 => (if y174.length + l0_6.length < 4398046511104 then ((some (([] : List (S46)) : List (S46))).bind fun y180 => (if y180.length + l0_7.length < 4398046511104 then (some (a0_0, a0_1, a0_2, a0_3, a0_4, a0_5, (y174 ++ l0_6), (y180 ++ l0_7), a0_8)) else (none))) else (none))
def althinglaw11_cloned.T1 : Bool × List (List Nat × List Nat) := (true, [([], []), ([], []), ([1], [1]), ([0, 2], [0, 2]), ([], []), ([], []), ([5], [5]), ([4, 6, 3], [4, 6]), ([0, 1, 2, 3, 5, 6], []), ([8, 3, 7, 0, 1, 2, 3, 5, 6], [3, 8]), ([0, 1, 2, 3, 4, 5, 6, 7, 8, 9], []), ([10, 7, 9, 0, 1, 2, 3, 4, 5, 6, 7, 8, 9], [7, 10])])
def althinglaw11_cloned.B1 : List Nat := [0, 0, 2, 7, 0, 0, 32, 127, 111, 511, 1023, 2047]
theorem althinglaw11_cloned.tab1 : rtab .any (opsOf Try.f30 1) = althinglaw11_cloned.T1 := by kernel_rfl
theorem althinglaw11_cloned.bits1 : waitsOk althinglaw11_cloned.T1.2 althinglaw11_cloned.B1 = true := by kernel_rfl
set_option maxHeartbeats 8000000 in
set_option maxRecDepth 100000 in
theorem althinglaw11_cloned.calls (a0_0 : Int) (a0_1 : Int) (a0_2 : Int) (a0_3 : Int) (a0_4 : Int) (a0_5 : Int) (A0_6 : Option Addr) (c0_6 : Nat) (l0_6 : List (S61)) (A0_7 : Option Addr) (c0_7 : Nat) (l0_7 : List (S46)) (a0_8 : Bool) (r1 : Int) (r2 : Int) (r3 : Int) (r4 : Int) (r5 : Int) (r6 : Int) (r7 : List (S61)) (r8 : List (S46)) (r9 : Bool) (w : World) (hr0_6 : Kd.C k61 w A0_6 l0_6.length l0_6) (hc0_6 : l0_6.length ≤ c0_6) (hr0_7 : Kd.C k46 w A0_7 l0_7.length l0_7) (hc0_7 : l0_7.length ≤ c0_7) (h : althinglaw11_cloned.f a0_0 a0_1 a0_2 a0_3 a0_4 a0_5 l0_6 l0_7 a0_8 = some (r1, r2, r3, r4, r5, r6, r7, r8, r9)) :
 Calls Try.prog 30 #[.agg #[.int .i64 a0_0, .int .i64 a0_1, .int .i64 a0_2, .int .i64 a0_3, .int .i64 a0_4, .int .i64 a0_5, .slice A0_6 l0_6.length c0_6, .slice A0_7 l0_7.length c0_7, .bool a0_8]] w fun e w' => ∃ v6_ v7_ : Value, e = .returned (.agg #[.int .i64 r1, .int .i64 r2, .int .i64 r3, .int .i64 r4, .int .i64 r5, .int .i64 r6, v6_, v7_, .bool r9]) ∧ Kd.R k61 61 w' w.heap.size (fun _ => True) v6_ r7 ∧ Kd.R k46 46 w' w.heap.size (fun _ => True) v7_ r8 ∧ Below w.heap.size w w' := by
 have hu32 := Try.underlying32
 have HR0_6 := Aside0.mk hr0_6
 have HC0_6 := Aside0.mk hc0_6
 clear hr0_6 hc0_6
 have HR0_7 := Aside0.mk hr0_7
 have HC0_7 := Aside0.mk hc0_7
 clear hr0_7 hc0_7
 have HB := Aside0.mk (Below.refl w.heap.size w)
 have H : ((some (([] : List (S61)) : List (S61))).bind fun y174 => (if y174.length + l0_6.length < 4398046511104 then ((some (([] : List (S46)) : List (S46))).bind fun y180 => (if y180.length + l0_7.length < 4398046511104 then (some (a0_0, a0_1, a0_2, a0_3, a0_4, a0_5, (y174 ++ l0_6), (y180 ++ l0_7), a0_8)) else (none))) else (none))) = some (r1, r2, r3, r4, r5, r6, r7, r8, r9) := h
 clear h
 obtain ⟨y174, hy174⟩ : ∃ y_ : List (S61), y_ = (([] : List (S61))) := ⟨_, rfl⟩
 replace H : (if y174.length + l0_6.length < 4398046511104 then ((some (([] : List (S46)) : List (S46))).bind fun y180 => (if y180.length + l0_7.length < 4398046511104 then (some (a0_0, a0_1, a0_2, a0_3, a0_4, a0_5, (y174 ++ l0_6), (y180 ++ l0_7), a0_8)) else (none))) else (none)) = some (r1, r2, r3, r4, r5, r6, r7, r8, r9) := by first | (rw [hy174]; with_reducible exact H) | (have H2_ := (Option.bind_some _ _).symm.trans H; rw [hy174]; with_reducible exact H2_) | (have H2_ := (Option.bind_some _ _).symm.trans H; with_reducible exact H2_) | with_reducible exact H | (rw [hy174]; exact H) | exact H
 have Ny174 := Aside0.mk hy174
 clear hy174
 by_cases c2 : y174.length + l0_6.length < 4398046511104
 · rw [if_pos c2] at H
   have LMc2 := Aside0.mk c2
   clear c2
   obtain ⟨y177, hy177⟩ : ∃ y_ : List (S61), y_ = (y174 ++ l0_6) := ⟨_, rfl⟩
   replace H : ((some (([] : List (S46)) : List (S46))).bind fun y180 => (if y180.length + l0_7.length < 4398046511104 then (some (a0_0, a0_1, a0_2, a0_3, a0_4, a0_5, y177, (y180 ++ l0_7), a0_8)) else (none))) = some (r1, r2, r3, r4, r5, r6, r7, r8, r9) := by first | (rw [hy177]; with_reducible exact H) | (have H2_ := (Option.bind_some _ _).symm.trans H; rw [hy177]; with_reducible exact H2_) | (have H2_ := (Option.bind_some _ _).symm.trans H; with_reducible exact H2_) | with_reducible exact H | (rw [hy177]; exact H) | exact H
   have Ny177 := Aside0.mk hy177
   clear hy177
   obtain ⟨y180, hy180⟩ : ∃ y_ : List (S46), y_ = (([] : List (S46))) := ⟨_, rfl⟩
   replace H : (if y180.length + l0_7.length < 4398046511104 then (some (a0_0, a0_1, a0_2, a0_3, a0_4, a0_5, y177, (y180 ++ l0_7), a0_8)) else (none)) = some (r1, r2, r3, r4, r5, r6, r7, r8, r9) := by first | (rw [hy180]; with_reducible exact H) | (have H2_ := (Option.bind_some _ _).symm.trans H; rw [hy180]; with_reducible exact H2_) | (have H2_ := (Option.bind_some _ _).symm.trans H; with_reducible exact H2_) | with_reducible exact H | (rw [hy180]; exact H) | exact H
   have Ny180 := Aside0.mk hy180
   clear hy180
   by_cases c3 : y180.length + l0_7.length < 4398046511104
   · rw [if_pos c3] at H
     have LMc3 := Aside0.mk c3
     clear c3
     obtain ⟨y183, hy183⟩ : ∃ y_ : List (S46), y_ = (y180 ++ l0_7) := ⟨_, rfl⟩
     replace H : (some (a0_0, a0_1, a0_2, a0_3, a0_4, a0_5, y177, y183, a0_8)) = some (r1, r2, r3, r4, r5, r6, r7, r8, r9) := by first | (rw [hy183]; with_reducible exact H) | (have H2_ := (Option.bind_some _ _).symm.trans H; rw [hy183]; with_reducible exact H2_) | (have H2_ := (Option.bind_some _ _).symm.trans H; with_reducible exact H2_) | with_reducible exact H | (rw [hy183]; exact H) | exact H
     have Ny183 := Aside0.mk hy183
     clear hy183
     simp only [Option.some.injEq, Prod.mk.injEq] at H
     obtain ⟨rfl, rfl, rfl, rfl, rfl, rfl, rfl, rfl, rfl⟩ := H
     go_enter Try.func30, Try.ntmps30
     try go_wp2_with (first | ((with_reducible refine gate_dst (N := 1) rfl ?_); refine box_event ?hg (N := 1) ?hd (cs := #[.int .i64 a0_0, .int .i64 a0_1, .int .i64 a0_2, .int .i64 a0_3, .int .i64 a0_4, .int .i64 a0_5, .slice A0_6 l0_6.length c0_6, .slice A0_7 l0_7.length c0_7, .bool a0_8]) (t := 32) ?hr ?_; (case hd => rfl); (case hg => rfl); (case hr => first | (go_simp; done) | (go_simp; rfl)); intro gb172 hg w4 hbox hb; have n0_ := Aside0.mk (below_step lb_ hb); have n1_ := Aside0.mk (hbox); have n2_ := Aside0.mk ((by rw [hg]; exact (below_size lb_) : w.heap.size ≤ gb172)); have n3_ := Aside0.mk ((by rw [hg]; exact (below_size lb_) : w.heap.size ≤ gb172)); clear HB; have HB := n0_; have BK172 := n1_; have GW172 := n2_; have GE172 := n3_; clear n0_ n1_ n2_ n3_; clear hb hbox hg) | ((with_reducible refine gate_dst (N := 2) rfl ?_); refine box_event ?hg (N := 2) ?hd (cs := #[.int .i64 0, .int .i64 0, .int .i64 0, .int .i64 0, .int .i64 0, .int .i64 0, .slice none 0 0, .slice none 0 0, .bool false]) (t := 32) ?hr ?_; (case hd => rfl); (case hg => rfl); (case hr => first | (go_simp; done) | (go_simp; rfl)); intro gb173 hg w5 hbox hb; have n0_ := Aside0.mk (blk_below (kb_ BK172.out) hb); have n1_ := Aside0.mk (below_step (by repeat (first | (with_reducible first | exact HB.out | apply below_alloc | apply pw_below_drewN | apply below_drew1 | refine below_set ?_ GE172.out) | exact HB.out)) hb); have n2_ := Aside0.mk (hbox); have n3_ := Aside0.mk ((by rw [hg]; exact (below_size (by repeat (first | (with_reducible first | exact HB.out | apply below_alloc | apply pw_below_drewN | apply below_drew1 | refine below_set ?_ GE172.out) | exact HB.out))) : w.heap.size ≤ gb173)); have n4_ := Aside0.mk ((by rw [hg]; exact (below_size (by repeat (first | (with_reducible first | exact HB.out | apply below_alloc | apply pw_below_drewN | apply below_drew1 | refine below_set ?_ GE172.out) | exact HB.out))) : w.heap.size ≤ gb173)); have n5_ := Aside0.mk ((by rw [hg]; exact Nat.ne_of_lt (blk_lt (kb_ BK172.out)) : gb172 ≠ gb173)); have n6_ := Aside0.mk ((by rw [hg]; exact Nat.ne_of_gt (blk_lt (kb_ BK172.out)) : gb173 ≠ gb172)); clear BK172; clear HB; have BK172 := n0_; have HB := n1_; have BK173 := n2_; have GW173 := n3_; have GE173 := n4_; have NB172_173 := n5_; have NB173_172 := n6_; clear n0_ n1_ n2_ n3_ n4_ n5_ n6_; clear hb hbox hg))
     have n0_ := Aside0.mk (blk_drew BK172.out)
     have n1_ := Aside0.mk (blk_drew BK173.out)
     have n2_ := Aside0.mk (below_drew1 HB.out)
     clear BK172
     clear BK173
     clear HB
     have BK172 := n0_
     have BK173 := n1_
     have HB := n2_
     clear n0_ n1_ n2_
     refine start_ (n := 12) (S := fun w' => w'.heap[gb172]? = some (.cells #[.int .i64 a0_0, .int .i64 a0_1, .int .i64 a0_2, .int .i64 a0_3, .int .i64 a0_4, .int .i64 a0_5, .slice A0_6 l0_6.length c0_6, .slice A0_7 l0_7.length c0_7, .bool a0_8] 32 (0, 0))) (ds := [9, 11]) #[false, false, false, false, false, false, false, false, false, false, false, false] (by kernel_rfl) rfl rfl BK172.out (fun hHeld => ?_); refine with_tabW althinglaw11_cloned.tab1 althinglaw11_cloned.bits1 (fun HT_ HW_ => ?_)
     generalize w5.drew = w6 at BK172 BK173 HB hHeld ⊢
     refine pure_ (i := 1) (N := some 4) (v := ?_) (a' := ?_) #[false, true, false, false, false, false, false, false, false, false, false, false] rfl rfl (any_of HT_.out (by kernel_rfl)) (fun _ _ _ h => h) (Or.inl ⟨by rfl, ?_⟩) ?_ ?_
     rotate_left
     · intro w'
       go_simp
       with_reducible rfl
     rotate_left
     · simp only [Act.put, List.setIfInBounds_toArray, List.set_cons_zero, List.set_cons_succ, i64_w, i32_w]
       rfl
     refine pure_ (i := 5) (N := some 8) (v := ?_) (a' := ?_) #[false, true, false, false, false, true, false, false, false, false, false, false] rfl rfl (any_of HT_.out (by kernel_rfl)) (fun _ _ _ h => h) (Or.inl ⟨by rfl, ?_⟩) ?_ ?_
     rotate_left
     · intro w'
       go_simp
       with_reducible rfl
     rotate_left
     · simp only [Act.put, List.setIfInBounds_toArray, List.set_cons_zero, List.set_cons_succ, i64_w, i32_w]
       rfl
     refine take_ (i := 2) (N := some 5) (v := ?_) (a' := ?_) #[false, true, true, false, false, true, false, false, false, false, false, false] rfl rfl (take_ofW HT_.out HW_.out (by kernel_rfl)) (fun _ _ _ h => h) (Or.inl ⟨by rfl, ?_⟩) hHeld ?_ ?_
     rotate_left
     · rintro w' s0
       first | (refine blk_yield2 (T := 32) s0 ?_ ⟨_, Try.underlying32, rfl⟩ ?_; exact ⟨rfl, rfl⟩; kernel_rfl) | (refine blk9_ s0 fun _ _ _ _ _ _ _ _ _ _ _ _ _ _ _ _ _ _ => ?_; go_simp; with_reducible rfl)
     rotate_left
     · simp only [Act.put, List.setIfInBounds_toArray, List.set_cons_zero, List.set_cons_succ, i64_w, i32_w]
       rfl
     refine take_ (i := 6) (N := some 9) (v := ?_) (a' := ?_) #[false, true, true, false, false, true, true, false, false, false, false, false] rfl rfl (take_ofW HT_.out HW_.out (by kernel_rfl)) (fun _ _ _ h => h) (Or.inl ⟨by rfl, ?_⟩) hHeld ?_ ?_
     rotate_left
     · rintro w' s0
       first | (refine blk_yield2 (T := 32) s0 ?_ ⟨_, Try.underlying32, rfl⟩ ?_; exact ⟨rfl, rfl⟩; kernel_rfl) | (refine blk9_ s0 fun _ _ _ _ _ _ _ _ _ _ _ _ _ _ _ _ _ _ => ?_; go_simp; with_reducible rfl)
     rotate_left
     · simp only [Act.put, List.setIfInBounds_toArray, List.set_cons_zero, List.set_cons_succ, i64_w, i32_w]
       rfl
     refine join_ (σ := Value × Value × Value) 4 #[true, true, true, true, true, true, true, false, true, false, false, false] (fun s_ => [(3, s_.1), (6, s_.2.1), (7, s_.2.2), (11, .pointer (some ⟨gb172, 6, none⟩))]) (fun s_ w' => (w'.heap[gb172]? = some (.cells #[.int .i64 a0_0, .int .i64 a0_1, .int .i64 a0_2, .int .i64 a0_3, .int .i64 a0_4, .int .i64 a0_5, .slice A0_6 l0_6.length c0_6, .slice A0_7 l0_7.length c0_7, .bool a0_8] 32 (0, 0))) ∧ (Kd.R k61 61 w' w.heap.size (fun _ => True) s_.2.1 y177) ∧ (Kd.R k46 46 w' w.heap.size (fun _ => True) s_.2.2 y180) ∧ (w'.heap[gb172]? = some (.cells #[.int .i64 a0_0, .int .i64 a0_1, .int .i64 a0_2, .int .i64 a0_3, .int .i64 a0_4, .int .i64 a0_5, .slice A0_6 l0_6.length c0_6, .slice A0_7 l0_7.length c0_7, .bool a0_8] 32 (0, 0))) ∧ (w'.heap[gb173]? = some (.cells #[.int .i64 0, .int .i64 0, .int .i64 0, .int .i64 0, .int .i64 0, .int .i64 0, .slice none 0 0, .slice none 0 0, .bool false] 32 (0, 0))) ∧ (Below w.heap.size w w')) ?_ ?_
     rotate_left
     · intro hCont
       refine two_ (i := 0) (j := 4) (Ni := some 3) (Nj := some 7) #[true, true, true, false, false, true, true, false, false, false, false, false] #[false, true, true, false, true, true, true, false, false, false, false, false] rfl rfl rfl rfl (two_of HT_.out (by kernel_rfl)) (by decide) (by decide) (fun K hK => ?_) (fun K hK => ?_)
       · skip
         refine Kd.R_lit_step k61 _ 61 ?hg (N := 3) ?hd (xs := ([] : List (S61))) (inner := []) (ok := fun _ => True) (okp := fun _ => True) ?hr ?hp (fun _ hk => hk) trivial (Below.refl _ _) (Nat.le_refl _) (by simp) ?_; (case hd => rfl); (case hg => rfl); (case hr => first | (go_simp; done) | (go_simp; rfl)); (case hp => exact (Reps.none _ _))
         intro v175 w7 ho8 hb hg_ hnew_
         clear hg_ hnew_
         (first | rw [← Ny174.out] at ho8 | (simp only [Int.reduceToNat] at ho8; rw [← Ny174.out] at ho8))
         have n0_ := Aside0.mk (Kd.R_lower ho8 (below_size (by repeat (first | (with_reducible first | exact HB.out | apply below_alloc | apply pw_below_drewN | apply below_drew1 | refine below_set ?_ GE172.out | refine below_set ?_ GE173.out) | exact HB.out))))
         have n1_ := Aside0.mk (blk_below (kb_ BK172.out) hb)
         have n2_ := Aside0.mk (blk_below (kb_ BK173.out) hb)
         have n3_ := Aside0.mk (below_step (by repeat (first | (with_reducible first | exact HB.out | apply below_alloc | apply pw_below_drewN | apply below_drew1 | refine below_set ?_ GE172.out | refine below_set ?_ GE173.out) | exact HB.out)) hb)
         clear BK172
         clear BK173
         clear HB
         have HO176 := n0_
         have BK172 := n1_
         have BK173 := n2_
         have HB := n3_
         clear n0_ n1_ n2_ n3_
         clear hb ho8
         refine hK.out _ _ BK172.out (fun hHeld => ?_)
         clear hK K
         refine norm_ (a' := ?_) ?_ ?_
         rotate_left
         · show Act.put _ (some 3) _ = _
           simp only [Act.put, List.setIfInBounds_toArray, List.set_cons_zero, List.set_cons_succ, i64_w, i32_w]
           rfl
         refine two_ (i := 3) (j := 4) (Ni := some 6) (Nj := some 7) #[true, true, true, true, false, true, true, false, false, false, false, false] #[true, true, true, false, true, true, true, false, false, false, false, false] rfl rfl rfl rfl (two_of HT_.out (by kernel_rfl)) (by decide) (by decide) (fun K hK => ?_) (fun K hK => ?_)
         · skip
           refine Kd.R_append_rows_step k61 (w0 := w) w.heap.size (by rfl) (.tmp 3) (.tmp 5) 29 61 (.agg #[(.string ⟨#[]⟩), (.int .i64 0), (.int .i64 0)]) 32 rfl Try.underlying29 info61 rfl (by decide) (by omega) v175 y174 l0_6 _ _ _ (fun _ => True) (fun _ => False) rfl rfl ?aO ?aR (fun _ _ h => h) (fun _ h => h.elim) ?aF ?aB ?aS ?aL ?_
           (case aR => repeat (first | exact (Kd.C_below HR0_6.out HB.out) | (with_reducible refine Kd.C_alloc ?_ _) | (with_reducible refine Kd.C_drewN ?_ _) | (with_reducible refine Kd.C_drew ?_)))
           (case aB => exact (by repeat (first | (with_reducible first | exact HB.out | apply below_alloc | apply pw_below_drewN | apply below_drew1 | refine below_set ?_ GE172.out | refine below_set ?_ GE173.out) | exact HB.out)))
           (case aF => exact (fun _ _ => trivial))
           (case aO => exact (kr_ HO176.out))
           (case aS => exact (below_size (by repeat (first | (with_reducible first | exact HB.out | apply below_alloc | apply pw_below_drewN | apply below_drew1 | refine below_set ?_ GE172.out | refine below_set ?_ GE173.out) | exact HB.out))))
           (case aL => have := LMc2.out; omega)
           intro v178 w9 ho hb hg hat
           rw [← Ny177.out] at ho
           have n0_ := Aside0.mk (blk_grown (kb_ BK172.out) hg (Kd.R_ne HO176.out BK172.out (by decide)))
           have n1_ := Aside0.mk (blk_grown (kb_ BK173.out) hg (Kd.R_ne HO176.out BK173.out (by decide)))
           have n2_ := Aside0.mk (hb)
           have n3_ := Aside0.mk (ho)
           clear BK172
           clear BK173
           clear HB
           clear HO176
           have BK172 := n0_
           have BK173 := n1_
           have HB := n2_
           have HO179 := n3_
           clear n0_ n1_ n2_ n3_
           clear ho hb hg hat
           refine hK.out _ _ BK172.out (fun hHeld => ?_)
           clear hK K
           refine norm_ (a' := ?_) ?_ ?_
           rotate_left
           · show Act.put _ (some 6) _ = _
             simp only [Act.put, List.setIfInBounds_toArray, List.set_cons_zero, List.set_cons_succ, i64_w, i32_w]
             rfl
           refine pure_ (i := 8) (N := some 11) (v := ?_) (a' := ?_) #[true, true, true, true, false, true, true, false, true, false, false, false] rfl rfl (any_of HT_.out (by kernel_rfl)) (fun _ _ _ h => h) (Or.inl ⟨by rfl, ?_⟩) ?_ ?_
           rotate_left
           · intro w'
             go_simp
             with_reducible rfl
           rotate_left
           · simp only [Act.put, List.setIfInBounds_toArray, List.set_cons_zero, List.set_cons_succ, i64_w, i32_w]
             rfl
           refine one_ (i := 4) (N := some 7) #[true, true, true, true, true, true, true, false, true, false, false, false] rfl rfl (one_of HT_.out (by kernel_rfl)) (by decide) (fun K hK => ?_)
           refine Kd.R_lit_step k46 _ 46 ?hg (N := 7) ?hd (xs := ([] : List (S46))) (inner := []) (ok := fun _ => True) (okp := fun _ => True) ?hr ?hp (fun _ hk => hk) trivial (Below.refl _ _) (Nat.le_refl _) (by simp) ?_; (case hd => rfl); (case hg => rfl); (case hr => first | (go_simp; done) | (go_simp; rfl)); (case hp => exact (Reps.none _ _))
           intro v181 w10 ho11 hb hg_ hnew_
           clear hg_ hnew_
           (first | rw [← Ny180.out] at ho11 | (simp only [Int.reduceToNat] at ho11; rw [← Ny180.out] at ho11))
           have n0_ := Aside0.mk (Kd.R_below (kr_ HO179.out) hb)
           have n1_ := Aside0.mk (Kd.R_lower ho11 (below_size (by repeat (first | (with_reducible first | exact HB.out | apply below_alloc | apply pw_below_drewN | apply below_drew1 | refine below_set ?_ GE172.out | refine below_set ?_ GE173.out) | exact HB.out))))
           have n2_ := Aside0.mk (blk_below (kb_ BK172.out) hb)
           have n3_ := Aside0.mk (blk_below (kb_ BK173.out) hb)
           have n4_ := Aside0.mk (below_step (by repeat (first | (with_reducible first | exact HB.out | apply below_alloc | apply pw_below_drewN | apply below_drew1 | refine below_set ?_ GE172.out | refine below_set ?_ GE173.out) | exact HB.out)) hb)
           clear HO179
           clear BK172
           clear BK173
           clear HB
           have HO179 := n0_
           have HO182 := n1_
           have BK172 := n2_
           have BK173 := n3_
           have HB := n4_
           clear n0_ n1_ n2_ n3_ n4_
           clear hb ho11
           refine hK.out _ _ BK172.out (fun hHeld => ?_)
           clear hK K
           refine norm_ (a' := ?_) ?_ ?_
           rotate_left
           · show Act.put _ (some 7) _ = _
             simp only [Act.put, List.setIfInBounds_toArray, List.set_cons_zero, List.set_cons_succ, i64_w, i32_w]
             rfl
           exact norm_ (by simp only [putAll, Act.put, List.setIfInBounds_toArray, List.set_cons_zero, List.set_cons_succ]) (hCont (v175, v178, v181) _ ⟨hHeld, (kr_ HO179.out), (kr_ HO182.out), (kb_ BK172.out), (kb_ BK173.out), (by repeat (first | (with_reducible first | exact HB.out | apply below_alloc | apply pw_below_drewN | apply below_drew1 | refine below_set ?_ GE172.out | refine below_set ?_ GE173.out) | exact HB.out))⟩)
         · skip
           refine Kd.R_lit_step k46 _ 46 ?hg (N := 7) ?hd (xs := ([] : List (S46))) (inner := []) (ok := fun _ => True) (okp := fun _ => True) ?hr ?hp (fun _ hk => hk) trivial (Below.refl _ _) (Nat.le_refl _) (by simp) ?_; (case hd => rfl); (case hg => rfl); (case hr => first | (go_simp; done) | (go_simp; rfl)); (case hp => exact (Reps.none _ _))
           intro v181 w9 ho10 hb hg_ hnew_
           clear hg_ hnew_
           (first | rw [← Ny180.out] at ho10 | (simp only [Int.reduceToNat] at ho10; rw [← Ny180.out] at ho10))
           have n0_ := Aside0.mk (Kd.R_below (kr_ HO176.out) hb)
           have n1_ := Aside0.mk (Kd.R_lower ho10 (below_size (by repeat (first | (with_reducible first | exact HB.out | apply below_alloc | apply pw_below_drewN | apply below_drew1 | refine below_set ?_ GE172.out | refine below_set ?_ GE173.out) | exact HB.out))))
           have n2_ := Aside0.mk (blk_below (kb_ BK172.out) hb)
           have n3_ := Aside0.mk (blk_below (kb_ BK173.out) hb)
           have n4_ := Aside0.mk (below_step (by repeat (first | (with_reducible first | exact HB.out | apply below_alloc | apply pw_below_drewN | apply below_drew1 | refine below_set ?_ GE172.out | refine below_set ?_ GE173.out) | exact HB.out)) hb)
           clear HO176
           clear BK172
           clear BK173
           clear HB
           have HO176 := n0_
           have HO182 := n1_
           have BK172 := n2_
           have BK173 := n3_
           have HB := n4_
           clear n0_ n1_ n2_ n3_ n4_
           clear hb ho10
           refine hK.out _ _ BK172.out (fun hHeld => ?_)
           clear hK K
           refine norm_ (a' := ?_) ?_ ?_
           rotate_left
           · show Act.put _ (some 7) _ = _
             simp only [Act.put, List.setIfInBounds_toArray, List.set_cons_zero, List.set_cons_succ, i64_w, i32_w]
             rfl
           refine one_ (i := 3) (N := some 6) #[true, true, true, true, true, true, true, false, false, false, false, false] rfl rfl (one_of HT_.out (by kernel_rfl)) (by decide) (fun K hK => ?_)
           refine Kd.R_append_rows_step k61 (w0 := w) w.heap.size (by rfl) (.tmp 3) (.tmp 5) 29 61 (.agg #[(.string ⟨#[]⟩), (.int .i64 0), (.int .i64 0)]) 32 rfl Try.underlying29 info61 rfl (by decide) (by omega) v175 y174 l0_6 _ _ _ (fun _ => True) (fun _ => False) rfl rfl ?aO ?aR (fun _ _ h => h) (fun _ h => h.elim) ?aF ?aB ?aS ?aL ?_
           (case aR => repeat (first | exact (Kd.C_below HR0_6.out HB.out) | (with_reducible refine Kd.C_alloc ?_ _) | (with_reducible refine Kd.C_drewN ?_ _) | (with_reducible refine Kd.C_drew ?_)))
           (case aB => exact (by repeat (first | (with_reducible first | exact HB.out | apply below_alloc | apply pw_below_drewN | apply below_drew1 | refine below_set ?_ GE172.out | refine below_set ?_ GE173.out) | exact HB.out)))
           (case aF => exact (fun _ _ => trivial))
           (case aO => exact (kr_ HO176.out))
           (case aS => exact (below_size (by repeat (first | (with_reducible first | exact HB.out | apply below_alloc | apply pw_below_drewN | apply below_drew1 | refine below_set ?_ GE172.out | refine below_set ?_ GE173.out) | exact HB.out))))
           (case aL => have := LMc2.out; omega)
           intro v178 w11 ho hb hg hat
           rw [← Ny177.out] at ho
           have n0_ := Aside0.mk (blk_grown (kb_ BK172.out) hg (Kd.R_ne HO176.out BK172.out (by decide)))
           have n1_ := Aside0.mk (blk_grown (kb_ BK173.out) hg (Kd.R_ne HO176.out BK173.out (by decide)))
           have n2_ := Aside0.mk (Kd.R_over' (kr_ HO182.out) (Kd.R_typed (kr_ HO176.out)) (by decide) hg)
           have n3_ := Aside0.mk (hb)
           have n4_ := Aside0.mk (ho)
           clear BK172
           clear BK173
           clear HO182
           clear HB
           clear HO176
           have BK172 := n0_
           have BK173 := n1_
           have HO182 := n2_
           have HB := n3_
           have HO179 := n4_
           clear n0_ n1_ n2_ n3_ n4_
           clear ho hb hg hat
           refine hK.out _ _ BK172.out (fun hHeld => ?_)
           clear hK K
           refine norm_ (a' := ?_) ?_ ?_
           rotate_left
           · show Act.put _ (some 6) _ = _
             simp only [Act.put, List.setIfInBounds_toArray, List.set_cons_zero, List.set_cons_succ, i64_w, i32_w]
             rfl
           refine pure_ (i := 8) (N := some 11) (v := ?_) (a' := ?_) #[true, true, true, true, true, true, true, false, true, false, false, false] rfl rfl (any_of HT_.out (by kernel_rfl)) (fun _ _ _ h => h) (Or.inl ⟨by rfl, ?_⟩) ?_ ?_
           rotate_left
           · intro w'
             go_simp
             with_reducible rfl
           rotate_left
           · simp only [Act.put, List.setIfInBounds_toArray, List.set_cons_zero, List.set_cons_succ, i64_w, i32_w]
             rfl
           exact norm_ (by simp only [putAll, Act.put, List.setIfInBounds_toArray, List.set_cons_zero, List.set_cons_succ]) (hCont (v175, v178, v181) _ ⟨hHeld, (kr_ HO179.out), (kr_ HO182.out), (kb_ BK172.out), (kb_ BK173.out), (by repeat (first | (with_reducible first | exact HB.out | apply below_alloc | apply pw_below_drewN | apply below_drew1 | refine below_set ?_ GE172.out | refine below_set ?_ GE173.out) | exact HB.out))⟩)
       · skip
         refine Kd.R_lit_step k46 _ 46 ?hg (N := 7) ?hd (xs := ([] : List (S46))) (inner := []) (ok := fun _ => True) (okp := fun _ => True) ?hr ?hp (fun _ hk => hk) trivial (Below.refl _ _) (Nat.le_refl _) (by simp) ?_; (case hd => rfl); (case hg => rfl); (case hr => first | (go_simp; done) | (go_simp; rfl)); (case hp => exact (Reps.none _ _))
         intro v181 w7 ho8 hb hg_ hnew_
         clear hg_ hnew_
         (first | rw [← Ny180.out] at ho8 | (simp only [Int.reduceToNat] at ho8; rw [← Ny180.out] at ho8))
         have n0_ := Aside0.mk (Kd.R_lower ho8 (below_size (by repeat (first | (with_reducible first | exact HB.out | apply below_alloc | apply pw_below_drewN | apply below_drew1 | refine below_set ?_ GE172.out | refine below_set ?_ GE173.out) | exact HB.out))))
         have n1_ := Aside0.mk (blk_below (kb_ BK172.out) hb)
         have n2_ := Aside0.mk (blk_below (kb_ BK173.out) hb)
         have n3_ := Aside0.mk (below_step (by repeat (first | (with_reducible first | exact HB.out | apply below_alloc | apply pw_below_drewN | apply below_drew1 | refine below_set ?_ GE172.out | refine below_set ?_ GE173.out) | exact HB.out)) hb)
         clear BK172
         clear BK173
         clear HB
         have HO182 := n0_
         have BK172 := n1_
         have BK173 := n2_
         have HB := n3_
         clear n0_ n1_ n2_ n3_
         clear hb ho8
         refine hK.out _ _ BK172.out (fun hHeld => ?_)
         clear hK K
         refine norm_ (a' := ?_) ?_ ?_
         rotate_left
         · show Act.put _ (some 7) _ = _
           simp only [Act.put, List.setIfInBounds_toArray, List.set_cons_zero, List.set_cons_succ, i64_w, i32_w]
           rfl
         refine one_ (i := 0) (N := some 3) #[true, true, true, false, true, true, true, false, false, false, false, false] rfl rfl (one_of HT_.out (by kernel_rfl)) (by decide) (fun K hK => ?_)
         refine Kd.R_lit_step k61 _ 61 ?hg (N := 3) ?hd (xs := ([] : List (S61))) (inner := []) (ok := fun _ => True) (okp := fun _ => True) ?hr ?hp (fun _ hk => hk) trivial (Below.refl _ _) (Nat.le_refl _) (by simp) ?_; (case hd => rfl); (case hg => rfl); (case hr => first | (go_simp; done) | (go_simp; rfl)); (case hp => exact (Reps.none _ _))
         intro v175 w9 ho10 hb hg_ hnew_
         clear hg_ hnew_
         (first | rw [← Ny174.out] at ho10 | (simp only [Int.reduceToNat] at ho10; rw [← Ny174.out] at ho10))
         have n0_ := Aside0.mk (Kd.R_below (kr_ HO182.out) hb)
         have n1_ := Aside0.mk (Kd.R_lower ho10 (below_size (by repeat (first | (with_reducible first | exact HB.out | apply below_alloc | apply pw_below_drewN | apply below_drew1 | refine below_set ?_ GE172.out | refine below_set ?_ GE173.out) | exact HB.out))))
         have n2_ := Aside0.mk (blk_below (kb_ BK172.out) hb)
         have n3_ := Aside0.mk (blk_below (kb_ BK173.out) hb)
         have n4_ := Aside0.mk (below_step (by repeat (first | (with_reducible first | exact HB.out | apply below_alloc | apply pw_below_drewN | apply below_drew1 | refine below_set ?_ GE172.out | refine below_set ?_ GE173.out) | exact HB.out)) hb)
         clear HO182
         clear BK172
         clear BK173
         clear HB
         have HO182 := n0_
         have HO176 := n1_
         have BK172 := n2_
         have BK173 := n3_
         have HB := n4_
         clear n0_ n1_ n2_ n3_ n4_
         clear hb ho10
         refine hK.out _ _ BK172.out (fun hHeld => ?_)
         clear hK K
         refine norm_ (a' := ?_) ?_ ?_
         rotate_left
         · show Act.put _ (some 3) _ = _
           simp only [Act.put, List.setIfInBounds_toArray, List.set_cons_zero, List.set_cons_succ, i64_w, i32_w]
           rfl
         refine one_ (i := 3) (N := some 6) #[true, true, true, true, true, true, true, false, false, false, false, false] rfl rfl (one_of HT_.out (by kernel_rfl)) (by decide) (fun K hK => ?_)
         refine Kd.R_append_rows_step k61 (w0 := w) w.heap.size (by rfl) (.tmp 3) (.tmp 5) 29 61 (.agg #[(.string ⟨#[]⟩), (.int .i64 0), (.int .i64 0)]) 32 rfl Try.underlying29 info61 rfl (by decide) (by omega) v175 y174 l0_6 _ _ _ (fun _ => True) (fun _ => False) rfl rfl ?aO ?aR (fun _ _ h => h) (fun _ h => h.elim) ?aF ?aB ?aS ?aL ?_
         (case aR => repeat (first | exact (Kd.C_below HR0_6.out HB.out) | (with_reducible refine Kd.C_alloc ?_ _) | (with_reducible refine Kd.C_drewN ?_ _) | (with_reducible refine Kd.C_drew ?_)))
         (case aB => exact (by repeat (first | (with_reducible first | exact HB.out | apply below_alloc | apply pw_below_drewN | apply below_drew1 | refine below_set ?_ GE172.out | refine below_set ?_ GE173.out) | exact HB.out)))
         (case aF => exact (fun _ _ => trivial))
         (case aO => exact (kr_ HO176.out))
         (case aS => exact (below_size (by repeat (first | (with_reducible first | exact HB.out | apply below_alloc | apply pw_below_drewN | apply below_drew1 | refine below_set ?_ GE172.out | refine below_set ?_ GE173.out) | exact HB.out))))
         (case aL => have := LMc2.out; omega)
         intro v178 w11 ho hb hg hat
         rw [← Ny177.out] at ho
         have n0_ := Aside0.mk (blk_grown (kb_ BK172.out) hg (Kd.R_ne HO176.out BK172.out (by decide)))
         have n1_ := Aside0.mk (blk_grown (kb_ BK173.out) hg (Kd.R_ne HO176.out BK173.out (by decide)))
         have n2_ := Aside0.mk (Kd.R_over' (kr_ HO182.out) (Kd.R_typed (kr_ HO176.out)) (by decide) hg)
         have n3_ := Aside0.mk (hb)
         have n4_ := Aside0.mk (ho)
         clear BK172
         clear BK173
         clear HO182
         clear HB
         clear HO176
         have BK172 := n0_
         have BK173 := n1_
         have HO182 := n2_
         have HB := n3_
         have HO179 := n4_
         clear n0_ n1_ n2_ n3_ n4_
         clear ho hb hg hat
         refine hK.out _ _ BK172.out (fun hHeld => ?_)
         clear hK K
         refine norm_ (a' := ?_) ?_ ?_
         rotate_left
         · show Act.put _ (some 6) _ = _
           simp only [Act.put, List.setIfInBounds_toArray, List.set_cons_zero, List.set_cons_succ, i64_w, i32_w]
           rfl
         refine pure_ (i := 8) (N := some 11) (v := ?_) (a' := ?_) #[true, true, true, true, true, true, true, false, true, false, false, false] rfl rfl (any_of HT_.out (by kernel_rfl)) (fun _ _ _ h => h) (Or.inl ⟨by rfl, ?_⟩) ?_ ?_
         rotate_left
         · intro w'
           go_simp
           with_reducible rfl
         rotate_left
         · simp only [Act.put, List.setIfInBounds_toArray, List.set_cons_zero, List.set_cons_succ, i64_w, i32_w]
           rfl
         exact norm_ (by simp only [putAll, Act.put, List.setIfInBounds_toArray, List.set_cons_zero, List.set_cons_succ]) (hCont (v175, v178, v181) _ ⟨hHeld, (kr_ HO179.out), (kr_ HO182.out), (kb_ BK172.out), (kb_ BK173.out), (by repeat (first | (with_reducible first | exact HB.out | apply below_alloc | apply pw_below_drewN | apply below_drew1 | refine below_set ?_ GE172.out | refine below_set ?_ GE173.out) | exact HB.out))⟩)
     rintro ⟨v175, v178, v181⟩ w12 ⟨hS_, h0_, h1_, h2_, h3_, h4_⟩
     have n0_ : Aside0 (Kd.R k61 61 w12 w.heap.size (fun _ => True) v178 y177) := ⟨h0_⟩
     have n1_ : Aside0 (Kd.R k46 46 w12 w.heap.size (fun _ => True) v181 y180) := ⟨h1_⟩
     have n2_ : Aside0 (w12.heap[gb172]? = some (.cells #[.int .i64 a0_0, .int .i64 a0_1, .int .i64 a0_2, .int .i64 a0_3, .int .i64 a0_4, .int .i64 a0_5, .slice A0_6 l0_6.length c0_6, .slice A0_7 l0_7.length c0_7, .bool a0_8] 32 (0, 0))) := ⟨h2_⟩
     have n3_ : Aside0 (w12.heap[gb173]? = some (.cells #[.int .i64 0, .int .i64 0, .int .i64 0, .int .i64 0, .int .i64 0, .int .i64 0, .slice none 0 0, .slice none 0 0, .bool false] 32 (0, 0))) := ⟨h3_⟩
     have n4_ : Aside0 (Below w.heap.size w w12) := ⟨h4_⟩
     clear BK172
     clear BK173
     clear HB
     clear h0_ h1_ h2_ h3_ h4_
     have HO179 := n0_
     have HO182 := n1_
     have BK172 := n2_
     have BK173 := n3_
     have HB := n4_
     clear n0_ n1_ n2_ n3_ n4_
     have hHeld : w12.heap[gb172]? = some (.cells #[.int .i64 a0_0, .int .i64 a0_1, .int .i64 a0_2, .int .i64 a0_3, .int .i64 a0_4, .int .i64 a0_5, .slice A0_6 l0_6.length c0_6, .slice A0_7 l0_7.length c0_7, .bool a0_8] 32 (0, 0)) := hS_
     refine norm_ (a' := ?_) ?_ ?_
     rotate_left
     · simp only [putAll, Act.put, List.setIfInBounds_toArray, List.set_cons_zero, List.set_cons_succ]
       rfl
     refine one_ (i := 7) (N := some 10) #[true, true, true, true, true, true, true, true, true, false, false, false] rfl rfl (one_of HT_.out (by kernel_rfl)) (by decide) (fun K hK => ?_)
     refine Kd.R_append_rows_step k46 (w0 := w) w.heap.size (by rfl) (.tmp 7) (.tmp 9) 30 46 (.agg #[(.string ⟨#[]⟩), (.string ⟨#[]⟩)]) 32 rfl Try.underlying30 info46 rfl (by decide) (by omega) v181 y180 l0_7 _ _ _ (fun _ => True) (fun _ => False) rfl rfl ?aO ?aR (fun _ _ h => h) (fun _ h => h.elim) ?aF ?aB ?aS ?aL ?_
     (case aR => repeat (first | exact (Kd.C_below HR0_7.out HB.out) | (with_reducible refine Kd.C_alloc ?_ _) | (with_reducible refine Kd.C_drewN ?_ _) | (with_reducible refine Kd.C_drew ?_)))
     (case aB => exact (by repeat (first | (with_reducible first | exact HB.out | apply below_alloc | apply pw_below_drewN | apply below_drew1 | refine below_set ?_ GE172.out | refine below_set ?_ GE173.out) | exact HB.out)))
     (case aF => exact (fun _ _ => trivial))
     (case aO => exact (kr_ HO182.out))
     (case aS => exact (below_size (by repeat (first | (with_reducible first | exact HB.out | apply below_alloc | apply pw_below_drewN | apply below_drew1 | refine below_set ?_ GE172.out | refine below_set ?_ GE173.out) | exact HB.out))))
     (case aL => have := LMc3.out; omega)
     intro v184 w13 ho hb hg hat
     rw [← Ny183.out] at ho
     have n0_ := Aside0.mk (blk_grown (kb_ BK172.out) hg (Kd.R_ne HO182.out BK172.out (by decide)))
     have n1_ := Aside0.mk (blk_grown (kb_ BK173.out) hg (Kd.R_ne HO182.out BK173.out (by decide)))
     have n2_ := Aside0.mk (Kd.R_over' (kr_ HO179.out) (Kd.R_typed (kr_ HO182.out)) (by decide) hg)
     have n3_ := Aside0.mk (hb)
     have n4_ := Aside0.mk (ho)
     clear BK172
     clear BK173
     clear HO179
     clear HB
     clear HO182
     have BK172 := n0_
     have BK173 := n1_
     have HO179 := n2_
     have HB := n3_
     have HO185 := n4_
     clear n0_ n1_ n2_ n3_ n4_
     clear ho hb hg hat
     obtain ⟨Ao14, co14, eo14⟩ := Kd.R_slice HO179.out
     (first | subst eo14 | (injection eo14 with f1_ f2_ f3_; have f4_ := f1_.symm; have f5_ := f3_.symm; clear f1_ f2_ f3_; subst f4_; subst f5_))
     obtain ⟨Ao16, co16, eo16⟩ := Kd.R_slice HO185.out
     (first | subst eo16 | (injection eo16 with f1_ f2_ f3_; have f4_ := f1_.symm; have f5_ := f3_.symm; clear f1_ f2_ f3_; subst f4_; subst f5_))
     refine hK.out _ _ BK172.out (fun hHeld => ?_)
     clear hK K
     refine norm_ (a' := ?_) ?_ ?_
     rotate_left
     · show Act.put _ (some 10) _ = _
       simp only [Act.put, List.setIfInBounds_toArray, List.set_cons_zero, List.set_cons_succ, i64_w, i32_w]
       rfl
     refine last_ (i := 9) (N := none) #[true, true, true, true, true, true, true, true, true, true, false, false] rfl rfl (one_of HT_.out (by kernel_rfl)) (by decide) (fun K hK => ?_)
     have hs15 : w13.cell? ⟨gb172, 6, none⟩ = some (.slice A0_6 l0_6.length c0_6) := (blk_cell BK172.out 6).trans rfl
     have hfs15 := blk_frozen BK172.out 6
     have hns15_1 := NB173_172.out
     have hms15_1 := NB172_173.out
     refine skip_ (w1 := ?_) (by rfl) rfl ?_ ?_
     rotate_left
     · go_simp
       rfl
     refine hK.out _ _ ?_
     clear hK K
     refine pure_ (i := 10) (N := some 12) (v := ?_) (a' := ?_) #[true, true, true, true, true, true, true, true, true, true, true, false] rfl rfl (any_of HT_.out (by kernel_rfl)) (fun _ _ _ h => h) (Or.inl ⟨by rfl, ?_⟩) ?_ ?_
     rotate_left
     · intro w'
       go_simp
       with_reducible rfl
     rotate_left
     · simp only [Act.put, List.setIfInBounds_toArray, List.set_cons_zero, List.set_cons_succ, i64_w, i32_w]
       rfl
     refine last_ (i := 11) (N := none) #[true, true, true, true, true, true, true, true, true, true, true, true] rfl rfl (one_of HT_.out (by kernel_rfl)) (by decide) (fun K hK => ?_)
     have hs17 : w13.cell? ⟨gb172, 7, none⟩ = some (.slice A0_7 l0_7.length c0_7) := (blk_cell BK172.out 7).trans rfl
     have hfs17 := blk_frozen BK172.out 7
     have hns17_1 := NB173_172.out
     have hms17_1 := NB172_173.out
     refine skip_ (w1 := ?_) (by rfl) rfl ?_ ?_
     rotate_left
     · go_simp
       rfl
     refine hK.out _ _ ?_
     clear hK K
     refine done_ (done_of HT_.out (by kernel_rfl)) ?_
     have hnb18 := NB172_173.out
     have hnc18 := NB173_172.out
     refine blk9_ BK172.out fun hcz19_0 hcz19_1 hcz19_2 hcz19_3 hcz19_4 hcz19_5 hcz19_6 hcz19_7 hcz19_8 hfz19_0 hfz19_1 hfz19_2 hfz19_3 hfz19_4 hfz19_5 hfz19_6 hfz19_7 hfz19_8 => ?_
     refine blk9_ BK173.out fun hcz20_0 hcz20_1 hcz20_2 hcz20_3 hcz20_4 hcz20_5 hcz20_6 hcz20_7 hcz20_8 hfz20_0 hfz20_1 hfz20_2 hfz20_3 hfz20_4 hfz20_5 hfz20_6 hfz20_7 hfz20_8 => ?_
     try go_wp2_with (first | ((with_reducible refine gate_store (t := 32) (p := 2) rfl ?_); refine store_event (t := 32) (p := 2) (v := ?vo_w21) (w1 := (((((((((((w13.setCell ⟨gb172, 6, none⟩ (.slice Ao14 y177.length co14)).setCell ⟨gb172, 7, none⟩ (.slice Ao16 y183.length co16)).setCell ⟨gb173, 0, none⟩ (.int .i64 a0_0)).setCell ⟨gb173, 1, none⟩ (.int .i64 a0_1)).setCell ⟨gb173, 2, none⟩ (.int .i64 a0_2)).setCell ⟨gb173, 3, none⟩ (.int .i64 a0_3)).setCell ⟨gb173, 4, none⟩ (.int .i64 a0_4)).setCell ⟨gb173, 5, none⟩ (.int .i64 a0_5)).setCell ⟨gb173, 6, none⟩ (.slice Ao14 y177.length co14)).setCell ⟨gb173, 7, none⟩ (.slice Ao16 y183.length co16)).setCell ⟨gb173, 8, none⟩ (.bool a0_8))) ?hg ?ho ?hn ?hr ?_; (case ho => rfl); (case hg => rfl); (case hn => rfl); (case hr => first | (go_simp; done) | (go_simp; rfl)); intro w21 hw; have n0_ : Aside0 (Kd.R k61 61 w21 w.heap.size (fun _ => True) (.slice Ao14 y177.length co14) y177) := ⟨(by rw [hw]; exact (by (with_reducible repeat (first | apply Kd.R_alloc | apply Kd.R_drewN | apply Kd.R_drew)); exact Kd.R_mono (Kd.R_far (p := ⟨gb173, 8, none⟩) (Kd.R_far (p := ⟨gb173, 7, none⟩) (Kd.R_far (p := ⟨gb173, 6, none⟩) (Kd.R_far (p := ⟨gb173, 5, none⟩) (Kd.R_far (p := ⟨gb173, 4, none⟩) (Kd.R_far (p := ⟨gb173, 3, none⟩) (Kd.R_far (p := ⟨gb173, 2, none⟩) (Kd.R_far (p := ⟨gb173, 1, none⟩) (Kd.R_far (p := ⟨gb173, 0, none⟩) (Kd.R_far (p := ⟨gb172, 7, none⟩) (Kd.R_far (p := ⟨gb172, 6, none⟩) (Kd.R_types (Kd.R_types HO179.out BK172.out (by decide)) BK173.out (by decide)) (fun _ hk => hk.1.2) (.slice Ao14 y177.length co14)) (fun _ hk => hk.1.2) (.slice Ao16 y183.length co16)) (fun _ hk => hk.2) (.int .i64 a0_0)) (fun _ hk => hk.2) (.int .i64 a0_1)) (fun _ hk => hk.2) (.int .i64 a0_2)) (fun _ hk => hk.2) (.int .i64 a0_3)) (fun _ hk => hk.2) (.int .i64 a0_4)) (fun _ hk => hk.2) (.int .i64 a0_5)) (fun _ hk => hk.2) (.slice Ao14 y177.length co14)) (fun _ hk => hk.2) (.slice Ao16 y183.length co16)) (fun _ hk => hk.2) (.bool a0_8)) (fun _ hk => trivial)))⟩; have n1_ : Aside0 (Kd.R k46 46 w21 w.heap.size (fun _ => True) (.slice Ao16 y183.length co16) y183) := ⟨(by rw [hw]; exact (by (with_reducible repeat (first | apply Kd.R_alloc | apply Kd.R_drewN | apply Kd.R_drew)); exact Kd.R_mono (Kd.R_far (p := ⟨gb173, 8, none⟩) (Kd.R_far (p := ⟨gb173, 7, none⟩) (Kd.R_far (p := ⟨gb173, 6, none⟩) (Kd.R_far (p := ⟨gb173, 5, none⟩) (Kd.R_far (p := ⟨gb173, 4, none⟩) (Kd.R_far (p := ⟨gb173, 3, none⟩) (Kd.R_far (p := ⟨gb173, 2, none⟩) (Kd.R_far (p := ⟨gb173, 1, none⟩) (Kd.R_far (p := ⟨gb173, 0, none⟩) (Kd.R_far (p := ⟨gb172, 7, none⟩) (Kd.R_far (p := ⟨gb172, 6, none⟩) (Kd.R_types (Kd.R_types HO185.out BK172.out (by decide)) BK173.out (by decide)) (fun _ hk => hk.1.2) (.slice Ao14 y177.length co14)) (fun _ hk => hk.1.2) (.slice Ao16 y183.length co16)) (fun _ hk => hk.2) (.int .i64 a0_0)) (fun _ hk => hk.2) (.int .i64 a0_1)) (fun _ hk => hk.2) (.int .i64 a0_2)) (fun _ hk => hk.2) (.int .i64 a0_3)) (fun _ hk => hk.2) (.int .i64 a0_4)) (fun _ hk => hk.2) (.int .i64 a0_5)) (fun _ hk => hk.2) (.slice Ao14 y177.length co14)) (fun _ hk => hk.2) (.slice Ao16 y183.length co16)) (fun _ hk => hk.2) (.bool a0_8)) (fun _ hk => trivial)))⟩; have n2_ : Aside0 (w21.heap[gb172]? = some (.cells #[.int .i64 a0_0, .int .i64 a0_1, .int .i64 a0_2, .int .i64 a0_3, .int .i64 a0_4, .int .i64 a0_5, .slice Ao14 y177.length co14, .slice Ao16 y183.length co16, .bool a0_8] 32 (0, 0))) := ⟨(by rw [hw]; exact (by (with_reducible repeat (first | refine blk_drewN ?_ _ | refine blk_drew ?_ | refine blk_alloc ?_ _)); refine blk_far ?_ NB172_173.out _; (with_reducible repeat (first | refine blk_drewN ?_ _ | refine blk_drew ?_ | refine blk_alloc ?_ _)); refine blk_far ?_ NB172_173.out _; (with_reducible repeat (first | refine blk_drewN ?_ _ | refine blk_drew ?_ | refine blk_alloc ?_ _)); refine blk_far ?_ NB172_173.out _; (with_reducible repeat (first | refine blk_drewN ?_ _ | refine blk_drew ?_ | refine blk_alloc ?_ _)); refine blk_far ?_ NB172_173.out _; (with_reducible repeat (first | refine blk_drewN ?_ _ | refine blk_drew ?_ | refine blk_alloc ?_ _)); refine blk_far ?_ NB172_173.out _; (with_reducible repeat (first | refine blk_drewN ?_ _ | refine blk_drew ?_ | refine blk_alloc ?_ _)); refine blk_far ?_ NB172_173.out _; (with_reducible repeat (first | refine blk_drewN ?_ _ | refine blk_drew ?_ | refine blk_alloc ?_ _)); refine blk_far ?_ NB172_173.out _; (with_reducible repeat (first | refine blk_drewN ?_ _ | refine blk_drew ?_ | refine blk_alloc ?_ _)); refine blk_far ?_ NB172_173.out _; (with_reducible repeat (first | refine blk_drewN ?_ _ | refine blk_drew ?_ | refine blk_alloc ?_ _)); refine blk_far ?_ NB172_173.out _; (with_reducible repeat (first | refine blk_drewN ?_ _ | refine blk_drew ?_ | refine blk_alloc ?_ _)); refine blk_put (cs := #[.int .i64 a0_0, .int .i64 a0_1, .int .i64 a0_2, .int .i64 a0_3, .int .i64 a0_4, .int .i64 a0_5, .slice Ao14 y177.length co14, .slice A0_7 l0_7.length c0_7, .bool a0_8]) ?_ 7 _ rfl; (with_reducible repeat (first | refine blk_drewN ?_ _ | refine blk_drew ?_ | refine blk_alloc ?_ _)); refine blk_put (cs := #[.int .i64 a0_0, .int .i64 a0_1, .int .i64 a0_2, .int .i64 a0_3, .int .i64 a0_4, .int .i64 a0_5, .slice A0_6 l0_6.length c0_6, .slice A0_7 l0_7.length c0_7, .bool a0_8]) ?_ 6 _ rfl; (with_reducible repeat (first | refine blk_drewN ?_ _ | refine blk_drew ?_ | refine blk_alloc ?_ _)); exact BK172.out))⟩; have n3_ : Aside0 (w21.heap[gb173]? = some (.cells #[.int .i64 a0_0, .int .i64 a0_1, .int .i64 a0_2, .int .i64 a0_3, .int .i64 a0_4, .int .i64 a0_5, .slice Ao14 y177.length co14, .slice Ao16 y183.length co16, .bool a0_8] 32 (0, 0))) := ⟨(by rw [hw]; exact (by (with_reducible repeat (first | refine blk_drewN ?_ _ | refine blk_drew ?_ | refine blk_alloc ?_ _)); refine blk_put (cs := #[.int .i64 a0_0, .int .i64 a0_1, .int .i64 a0_2, .int .i64 a0_3, .int .i64 a0_4, .int .i64 a0_5, .slice Ao14 y177.length co14, .slice Ao16 y183.length co16, .bool false]) ?_ 8 _ rfl; (with_reducible repeat (first | refine blk_drewN ?_ _ | refine blk_drew ?_ | refine blk_alloc ?_ _)); refine blk_put (cs := #[.int .i64 a0_0, .int .i64 a0_1, .int .i64 a0_2, .int .i64 a0_3, .int .i64 a0_4, .int .i64 a0_5, .slice Ao14 y177.length co14, .slice none 0 0, .bool false]) ?_ 7 _ rfl; (with_reducible repeat (first | refine blk_drewN ?_ _ | refine blk_drew ?_ | refine blk_alloc ?_ _)); refine blk_put (cs := #[.int .i64 a0_0, .int .i64 a0_1, .int .i64 a0_2, .int .i64 a0_3, .int .i64 a0_4, .int .i64 a0_5, .slice none 0 0, .slice none 0 0, .bool false]) ?_ 6 _ rfl; (with_reducible repeat (first | refine blk_drewN ?_ _ | refine blk_drew ?_ | refine blk_alloc ?_ _)); refine blk_put (cs := #[.int .i64 a0_0, .int .i64 a0_1, .int .i64 a0_2, .int .i64 a0_3, .int .i64 a0_4, .int .i64 0, .slice none 0 0, .slice none 0 0, .bool false]) ?_ 5 _ rfl; (with_reducible repeat (first | refine blk_drewN ?_ _ | refine blk_drew ?_ | refine blk_alloc ?_ _)); refine blk_put (cs := #[.int .i64 a0_0, .int .i64 a0_1, .int .i64 a0_2, .int .i64 a0_3, .int .i64 0, .int .i64 0, .slice none 0 0, .slice none 0 0, .bool false]) ?_ 4 _ rfl; (with_reducible repeat (first | refine blk_drewN ?_ _ | refine blk_drew ?_ | refine blk_alloc ?_ _)); refine blk_put (cs := #[.int .i64 a0_0, .int .i64 a0_1, .int .i64 a0_2, .int .i64 0, .int .i64 0, .int .i64 0, .slice none 0 0, .slice none 0 0, .bool false]) ?_ 3 _ rfl; (with_reducible repeat (first | refine blk_drewN ?_ _ | refine blk_drew ?_ | refine blk_alloc ?_ _)); refine blk_put (cs := #[.int .i64 a0_0, .int .i64 a0_1, .int .i64 0, .int .i64 0, .int .i64 0, .int .i64 0, .slice none 0 0, .slice none 0 0, .bool false]) ?_ 2 _ rfl; (with_reducible repeat (first | refine blk_drewN ?_ _ | refine blk_drew ?_ | refine blk_alloc ?_ _)); refine blk_put (cs := #[.int .i64 a0_0, .int .i64 0, .int .i64 0, .int .i64 0, .int .i64 0, .int .i64 0, .slice none 0 0, .slice none 0 0, .bool false]) ?_ 1 _ rfl; (with_reducible repeat (first | refine blk_drewN ?_ _ | refine blk_drew ?_ | refine blk_alloc ?_ _)); refine blk_put (cs := #[.int .i64 0, .int .i64 0, .int .i64 0, .int .i64 0, .int .i64 0, .int .i64 0, .slice none 0 0, .slice none 0 0, .bool false]) ?_ 0 _ rfl; (with_reducible repeat (first | refine blk_drewN ?_ _ | refine blk_drew ?_ | refine blk_alloc ?_ _)); refine blk_far ?_ NB173_172.out _; (with_reducible repeat (first | refine blk_drewN ?_ _ | refine blk_drew ?_ | refine blk_alloc ?_ _)); refine blk_far ?_ NB173_172.out _; (with_reducible repeat (first | refine blk_drewN ?_ _ | refine blk_drew ?_ | refine blk_alloc ?_ _)); exact BK173.out))⟩; have n4_ : Aside0 (Below w.heap.size w w21) := ⟨(by rw [hw]; exact (by repeat (first | (with_reducible first | exact HB.out | apply below_alloc | apply pw_below_drewN | apply below_drew1 | refine below_set ?_ GE172.out | refine below_set ?_ GE173.out) | exact HB.out)))⟩; clear hw; clear HO179; clear HO185; clear BK172; clear BK173; clear HB; have HO179 := n0_; have HO185 := n1_; have BK172 := n2_; have BK173 := n3_; have HB := n4_; clear n0_ n1_ n2_ n3_ n4_))
     refine bodyPost_ret (results_cell_row rfl _ _ gb173 32 #[.int .i64 a0_0, .int .i64 a0_1, .int .i64 a0_2, .int .i64 a0_3, .int .i64 a0_4, .int .i64 a0_5, .slice Ao14 y177.length co14, .slice Ao16 y183.length co16, .bool a0_8] (0, 0) _ rfl (kb_ BK173.out) Try.underlying32 rfl (by kernel_rfl)) rfl ?_
     exact ⟨_, _, by first | rfl | (simp [errW_none, errW_some] <;> rfl) | (simp [*, errW_none, errW_some] <;> rfl), by (with_reducible repeat (first | apply Kd.R_alloc | apply Kd.R_drewN | apply Kd.R_drew)); exact HO179.out, by (with_reducible repeat (first | apply Kd.R_alloc | apply Kd.R_drewN | apply Kd.R_drew)); exact HO185.out, by repeat (first | (with_reducible first | exact HB.out | apply below_alloc | apply pw_below_drewN | apply below_drew1 | refine below_set ?_ GE172.out | refine below_set ?_ GE173.out) | exact HB.out)⟩
   · rw [if_neg c3] at H
     exact absurd H (by simp)
 · rw [if_neg c2] at H
   exact absurd H (by simp)
end Go.Proofs.Ytklbmdakoeoplaa.X
end
section
namespace Go.Proofs.Ytklbmdakoeoplaa.X
open Go.RowKit Go.Proofs.YtklbmdakoeoplaaW.PrintWords Go.Proofs.YtklbmdakoeoplaaW.PrintLast Go.Proofs.YtklbmdakoeoplaaW.PrintMore
attribute [local go_sem] max2_int min2_int max_two min_two max_three min_three max_four min_four   -- for this text's walks alone
set_option linter.unusedVariables false
set_option linter.unusedSimpArgs false
/-! ### althinglaw11_own: function 13 -/
def althinglaw11_own.l0 : Nat → List (S44) → List (S44) → Int → Int → Option ((List (S44)))
 | 0, _, _, _, _ => none
 | k + 1, x3, x6, x7, x8 => if x8 < x7 then (if 0 ≤ x8 then (if x8 < (x6.length : Int) then ((althinglaw11_cloned.f ((rd_T44 x6 x8).f4.f0) ((rd_T44 x6 x8).f4.f1.f0) ((rd_T44 x6 x8).f4.f1.f1) ((rd_T44 x6 x8).f4.f2.f0) ((rd_T44 x6 x8).f4.f2.f1) ((rd_T44 x6 x8).f4.f3) ((rd_T44 x6 x8).f4.f4) ((rd_T44 x6 x8).f4.f5) ((rd_T44 x6 x8).f4.f6)).bind fun bt188 => (if x3.length < 606627104979 then (althinglaw11_own.l0 k (x3 ++ [(⟨(⟨(rd_T44 x6 x8).f0.f0, (rd_T44 x6 x8).f0.f1⟩ : S24), (rd_T44 x6 x8).f1, (⟨(rd_T44 x6 x8).f2.f0, (rd_T44 x6 x8).f2.f1⟩ : S40), (⟨(rd_T44 x6 x8).f3.f0, (rd_T44 x6 x8).f3.f1⟩ : S40), (⟨bt188.1, (⟨bt188.2.1, bt188.2.2.1⟩ : S26), (⟨bt188.2.2.2.1, bt188.2.2.2.2.1⟩ : S28), bt188.2.2.2.2.2.1, bt188.2.2.2.2.2.2.1, bt188.2.2.2.2.2.2.2.1, bt188.2.2.2.2.2.2.2.2⟩ : S32), (rd_T44 x6 x8).f5, (⟨(rd_T44 x6 x8).f6.f0, (rd_T44 x6 x8).f6.f1, (rd_T44 x6 x8).f6.f2, (rd_T44 x6 x8).f6.f3, (rd_T44 x6 x8).f6.f4, (rd_T44 x6 x8).f6.f5, (rd_T44 x6 x8).f6.f6⟩ : S42), (rd_T44 x6 x8).f7⟩ : S44)]) x6 x7 (wrap64 (x8 + 1))) else (none))) else (none)) else (none)) else (some x3)
def althinglaw11_own.f (k : Nat) (l0 : List (S44)) : Option ((List (S44))) := althinglaw11_own.l0 k ([] : List (S44)) l0 (l0.length : Int) 0
set_option maxHeartbeats 8000000 in
set_option maxRecDepth 100000 in
theorem althinglaw11_own.calls (k : Nat) (A0 : Option Addr) (c0 : Nat) (l0 : List (S44)) (r : List (S44)) (w : World) (hr0 : Kd.C k44 w A0 l0.length l0) (hc0 : l0.length ≤ c0) (h : althinglaw11_own.f k l0 = some r) :
 Calls Try.prog 13 #[.slice A0 l0.length c0] w fun e w' => ∃ v0_ : Value, e = .returned (v0_) ∧ Kd.S k44 44 w' w.heap.size (fun _ => True) v0_ r ∧ Below w.heap.size w w' := by
 have hu44 := Try.underlying44
 have hu32 := Try.underlying32
 have HR0 := Aside0.mk hr0
 have HC0 := Aside0.mk hc0
 clear hr0 hc0
 have HB := Aside0.mk (Below.refl w.heap.size w)
 have H : (althinglaw11_own.l0 k ([] : List (S44)) l0 (l0.length : Int) 0) = some r := h
 clear h
 have H' := Aside0.mk H
 clear H
 go_enter Try.func13, Try.ntmps13
 go_wp2
 go_loopg [3, 8] k (fun kq v3 v8 w' => ∃ (x3_1 : List (S44)) (x8_1 : Int), v8 = .int .i64 x8_1 ∧ Aside0 (althinglaw11_own.l0 kq x3_1 l0 (l0.length : Int) x8_1 = some r) ∧ Aside0 (kq ≤ k) ∧ Aside0 (Kd.S k44 44 w' w.heap.size (fun _ => True) v3 x3_1) ∧ Aside0 (Below w.heap.size w w'))
 case atStart => exact ⟨(([] : List (S44))), (0), (by first | rfl | (simp; done) | (simp [*]; done)), H', ⟨Nat.le_refl _⟩, ⟨by first | exact Kd.S_nil _ _ _ _ _ | exact Kd.N_nil _ _ _ _ _ | exact Kd.V_nil _ _ _ _ _ | exact Kd.Q_nil _ _ _ _ _ | exact Kd.R_nil _ _ _ _ _⟩, ⟨by repeat (first | (with_reducible first | exact HB.out | apply below_alloc | apply pw_below_drewN | apply below_drew1) | exact HB.out)⟩⟩
 case round =>
  clear H'
  try clear c1
  obtain ⟨x3_1, x8_1, rfl, HA, HK1, HO_3, HB⟩ := hrel
  cases gk with
  | zero => exact absurd HA.out (by simp [althinglaw11_own.l0])
  | succ k1 =>
   have H := HA.out
   clear HA
   simp only [althinglaw11_own.l0] at H
   by_cases c2 : x8_1 < (l0.length : Int)
   · rw [if_pos c2] at H
     have c2b0 : decide (x8_1 < (l0.length : Int)) = true := decide_eq_true c2
     clear c2
     by_cases c3 : 0 ≤ x8_1
     · rw [if_pos c3] at H
       have c3b0 : decide (0 ≤ x8_1) = true := decide_eq_true c3
       clear c3
       by_cases c4 : x8_1 < (l0.length : Int)
       · rw [if_pos c4] at H
         have c4b0 : decide (x8_1 < (l0.length : Int)) = true := decide_eq_true c4
         clear c4
         replace H := Option.bind_eq_some_iff.mp H
         obtain ⟨⟨t188, t189, t190, t191, t192, t193, t194, t197, t200⟩, A50, H⟩ := H
         replace H : (if x3_1.length < 606627104979 then (althinglaw11_own.l0 k1 (x3_1 ++ [(⟨(⟨(rd_T44 l0 x8_1).f0.f0, (rd_T44 l0 x8_1).f0.f1⟩ : S24), (rd_T44 l0 x8_1).f1, (⟨(rd_T44 l0 x8_1).f2.f0, (rd_T44 l0 x8_1).f2.f1⟩ : S40), (⟨(rd_T44 l0 x8_1).f3.f0, (rd_T44 l0 x8_1).f3.f1⟩ : S40), (⟨t188, (⟨t189, t190⟩ : S26), (⟨t191, t192⟩ : S28), t193, t194, t197, t200⟩ : S32), (rd_T44 l0 x8_1).f5, (⟨(rd_T44 l0 x8_1).f6.f0, (rd_T44 l0 x8_1).f6.f1, (rd_T44 l0 x8_1).f6.f2, (rd_T44 l0 x8_1).f6.f3, (rd_T44 l0 x8_1).f6.f4, (rd_T44 l0 x8_1).f6.f5, (rd_T44 l0 x8_1).f6.f6⟩ : S42), (rd_T44 l0 x8_1).f7⟩ : S44)]) l0 (l0.length : Int) (wrap64 (x8_1 + 1))) else (none)) = some r := H
         have A5 := Aside0.mk A50
         clear A50
         by_cases c6 : x3_1.length < 606627104979
         · rw [if_pos c6] at H
           have LMc6 := Aside0.mk c6
           clear c6
           obtain ⟨y201, hy201⟩ : ∃ y_ : List (S44), y_ = (x3_1 ++ [(⟨(⟨(rd_T44 l0 x8_1).f0.f0, (rd_T44 l0 x8_1).f0.f1⟩ : S24), (rd_T44 l0 x8_1).f1, (⟨(rd_T44 l0 x8_1).f2.f0, (rd_T44 l0 x8_1).f2.f1⟩ : S40), (⟨(rd_T44 l0 x8_1).f3.f0, (rd_T44 l0 x8_1).f3.f1⟩ : S40), (⟨t188, (⟨t189, t190⟩ : S26), (⟨t191, t192⟩ : S28), t193, t194, t197, t200⟩ : S32), (rd_T44 l0 x8_1).f5, (⟨(rd_T44 l0 x8_1).f6.f0, (rd_T44 l0 x8_1).f6.f1, (rd_T44 l0 x8_1).f6.f2, (rd_T44 l0 x8_1).f6.f3, (rd_T44 l0 x8_1).f6.f4, (rd_T44 l0 x8_1).f6.f5, (rd_T44 l0 x8_1).f6.f6⟩ : S42), (rd_T44 l0 x8_1).f7⟩ : S44)]) := ⟨_, rfl⟩
           replace H : (althinglaw11_own.l0 k1 y201 l0 (l0.length : Int) (wrap64 (x8_1 + 1))) = some r := by first | (rw [hy201]; with_reducible exact H) | (have H2_ := (Option.bind_some _ _).symm.trans H; rw [hy201]; with_reducible exact H2_) | (have H2_ := (Option.bind_some _ _).symm.trans H; with_reducible exact H2_) | with_reducible exact H | (rw [hy201]; exact H) | exact H
           have Ny201 := Aside0.mk hy201
           clear hy201
           have H' := Aside0.mk H
           clear H
           have p186 : 0 ≤ (x8_1 : Int) := of_decide_eq_true (by first | (with_reducible assumption) | assumption)
           have q186 : x8_1 < (l0.length : Int) := of_decide_eq_true (by first | (with_reducible assumption) | assumption)
           obtain ⟨ad186, A186_13, c186_13, A186_14, c186_14, e186, hx186_0, hx186_1, hx186_2, hx186_3, hx186_4, hx186_5, hx186_6, hx186_7, hx186_8, hx186_9, hx186_10, hx186_11, hx186_12, hx186_13, hx186_14, hx186_15, hx186_16, hx186_17, hx186_18, hx186_19, hx186_20, hx186_21, hx186_22, hx186_23, hx186_24, hl186_13, hi186_13, hl186_14, hi186_14⟩ := at_T44 HR0.out x8_1 p186 q186
           cases e186
           replace hx186_0 := (HB.out.cell (World.block_lt_of_cell? w _ hx186_0)).trans hx186_0
           replace hx186_1 := (HB.out.cell (World.block_lt_of_cell? w _ hx186_1)).trans hx186_1
           replace hx186_2 := (HB.out.cell (World.block_lt_of_cell? w _ hx186_2)).trans hx186_2
           replace hx186_3 := (HB.out.cell (World.block_lt_of_cell? w _ hx186_3)).trans hx186_3
           replace hx186_4 := (HB.out.cell (World.block_lt_of_cell? w _ hx186_4)).trans hx186_4
           replace hx186_5 := (HB.out.cell (World.block_lt_of_cell? w _ hx186_5)).trans hx186_5
           replace hx186_6 := (HB.out.cell (World.block_lt_of_cell? w _ hx186_6)).trans hx186_6
           replace hx186_7 := (HB.out.cell (World.block_lt_of_cell? w _ hx186_7)).trans hx186_7
           replace hx186_8 := (HB.out.cell (World.block_lt_of_cell? w _ hx186_8)).trans hx186_8
           replace hx186_9 := (HB.out.cell (World.block_lt_of_cell? w _ hx186_9)).trans hx186_9
           replace hx186_10 := (HB.out.cell (World.block_lt_of_cell? w _ hx186_10)).trans hx186_10
           replace hx186_11 := (HB.out.cell (World.block_lt_of_cell? w _ hx186_11)).trans hx186_11
           replace hx186_12 := (HB.out.cell (World.block_lt_of_cell? w _ hx186_12)).trans hx186_12
           replace hx186_13 := (HB.out.cell (World.block_lt_of_cell? w _ hx186_13)).trans hx186_13
           replace hx186_14 := (HB.out.cell (World.block_lt_of_cell? w _ hx186_14)).trans hx186_14
           replace hx186_15 := (HB.out.cell (World.block_lt_of_cell? w _ hx186_15)).trans hx186_15
           replace hx186_16 := (HB.out.cell (World.block_lt_of_cell? w _ hx186_16)).trans hx186_16
           replace hx186_17 := (HB.out.cell (World.block_lt_of_cell? w _ hx186_17)).trans hx186_17
           replace hx186_18 := (HB.out.cell (World.block_lt_of_cell? w _ hx186_18)).trans hx186_18
           replace hx186_19 := (HB.out.cell (World.block_lt_of_cell? w _ hx186_19)).trans hx186_19
           replace hx186_20 := (HB.out.cell (World.block_lt_of_cell? w _ hx186_20)).trans hx186_20
           replace hx186_21 := (HB.out.cell (World.block_lt_of_cell? w _ hx186_21)).trans hx186_21
           replace hx186_22 := (HB.out.cell (World.block_lt_of_cell? w _ hx186_22)).trans hx186_22
           replace hx186_23 := (HB.out.cell (World.block_lt_of_cell? w _ hx186_23)).trans hx186_23
           replace hx186_24 := (HB.out.cell (World.block_lt_of_cell? w _ hx186_24)).trans hx186_24
           have HR186_13 := Aside0.mk hi186_13
           have HC186_13 := Aside0.mk hl186_13
           clear hi186_13 hl186_13
           have HR186_14 := Aside0.mk hi186_14
           have HC186_14 := Aside0.mk hl186_14
           clear hi186_14 hl186_14
           replace p186 := eq_true p186
           replace q186 := eq_true q186
           go_wp2_with (first | ((with_reducible refine gate_dst (N := 11) rfl ?_); refine cells_load_event ?lg (N := 11) ?ld (t := 44) (x := ?lxxz7) ?lo (p := ?lppz7) ?lx (v := .int .i64 ((rd_T44 l0 x8_1).f0.f0)) (cs := [.int .i64 ((rd_T44 l0 x8_1).f0.f1), .int .i64 ((rd_T44 l0 x8_1).f1), .int .i64 ((rd_T44 l0 x8_1).f2.f0), .int .i64 ((rd_T44 l0 x8_1).f2.f1), .int .i64 ((rd_T44 l0 x8_1).f3.f0), .int .i64 ((rd_T44 l0 x8_1).f3.f1), .int .i64 ((rd_T44 l0 x8_1).f4.f0), .int .i64 ((rd_T44 l0 x8_1).f4.f1.f0), .int .i64 ((rd_T44 l0 x8_1).f4.f1.f1), .int .i64 ((rd_T44 l0 x8_1).f4.f2.f0), .int .i64 ((rd_T44 l0 x8_1).f4.f2.f1), .int .i64 ((rd_T44 l0 x8_1).f4.f3), .slice A186_13 ((rd_T44 l0 x8_1).f4.f4).length c186_13, .slice A186_14 ((rd_T44 l0 x8_1).f4.f5).length c186_14, .bool ((rd_T44 l0 x8_1).f4.f6), .int .i64 ((rd_T44 l0 x8_1).f5), .int .i64 ((rd_T44 l0 x8_1).f6.f0), .int .i64 ((rd_T44 l0 x8_1).f6.f1), .int .i64 ((rd_T44 l0 x8_1).f6.f2), .int .i64 ((rd_T44 l0 x8_1).f6.f3), .int .i64 ((rd_T44 l0 x8_1).f6.f4), .int .i64 ((rd_T44 l0 x8_1).f6.f5), .int .i64 ((rd_T44 l0 x8_1).f6.f6), .bool ((rd_T44 l0 x8_1).f7)]) ?lD ?lt ?l0 ?lc ?_; (case lg => rfl); (case ld => rfl); (case lo => rfl); (case lx => first | rfl | (go_simp; done) | (go_simp; rfl)); (case lD => exact ⟨_, Try.underlying44, rfl⟩); (case lt => kernel_rfl); (case l0 => exact hx186_0); (case lc => exact ⟨hx186_1, hx186_2, hx186_3, hx186_4, hx186_5, hx186_6, hx186_7, hx186_8, hx186_9, hx186_10, hx186_11, hx186_12, hx186_13, hx186_14, hx186_15, hx186_16, hx186_17, hx186_18, hx186_19, hx186_20, hx186_21, hx186_22, hx186_23, hx186_24, trivial⟩)) | ((with_reducible refine gate_dst (N := 5) rfl ?_); refine alloc_store_event ?hg1 (N := 5) ?hd1 ?hg2 ?hd2 ?ho2 (cs0 := #[.int .i64 0, .int .i64 0, .int .i64 0, .int .i64 0, .int .i64 0, .int .i64 0, .int .i64 0, .int .i64 0, .int .i64 0, .int .i64 0, .int .i64 0, .int .i64 0, .int .i64 0, .slice none 0 0, .slice none 0 0, .bool false, .int .i64 0, .int .i64 0, .int .i64 0, .int .i64 0, .int .i64 0, .int .i64 0, .int .i64 0, .int .i64 0, .bool false]) (cs := #[.int .i64 ((rd_T44 l0 x8_1).f0.f0), .int .i64 ((rd_T44 l0 x8_1).f0.f1), .int .i64 ((rd_T44 l0 x8_1).f1), .int .i64 ((rd_T44 l0 x8_1).f2.f0), .int .i64 ((rd_T44 l0 x8_1).f2.f1), .int .i64 ((rd_T44 l0 x8_1).f3.f0), .int .i64 ((rd_T44 l0 x8_1).f3.f1), .int .i64 ((rd_T44 l0 x8_1).f4.f0), .int .i64 ((rd_T44 l0 x8_1).f4.f1.f0), .int .i64 ((rd_T44 l0 x8_1).f4.f1.f1), .int .i64 ((rd_T44 l0 x8_1).f4.f2.f0), .int .i64 ((rd_T44 l0 x8_1).f4.f2.f1), .int .i64 ((rd_T44 l0 x8_1).f4.f3), .slice A186_13 ((rd_T44 l0 x8_1).f4.f4).length c186_13, .slice A186_14 ((rd_T44 l0 x8_1).f4.f5).length c186_14, .bool ((rd_T44 l0 x8_1).f4.f6), .int .i64 ((rd_T44 l0 x8_1).f5), .int .i64 ((rd_T44 l0 x8_1).f6.f0), .int .i64 ((rd_T44 l0 x8_1).f6.f1), .int .i64 ((rd_T44 l0 x8_1).f6.f2), .int .i64 ((rd_T44 l0 x8_1).f6.f3), .int .i64 ((rd_T44 l0 x8_1).f6.f4), .int .i64 ((rd_T44 l0 x8_1).f6.f5), .int .i64 ((rd_T44 l0 x8_1).f6.f6), .bool ((rd_T44 l0 x8_1).f7)]) (t := 44) (x := ?xxw8) ?hr ?hp ?hx ?hs ?h1 ?ht ?_; (case hg1 => rfl); (case hd1 => rfl); (case hg2 => rfl); (case hd2 => rfl); (case ho2 => rfl); (case hr => first | (go_simp; done) | (go_simp; rfl)); (case hp => rfl); (case hx => rfl); (case hs => rfl); (case h1 => rfl); (case ht => kernel_rfl); intro gb187 hg w8 hbox hb; have n0_ := Aside0.mk (Kd.S_below (Kd.S_elderB (ks_ HO_3.out) gb187 (Nat.le_of_eq hg.symm)) hb); have n1_ := Aside0.mk (below_step lb_ hb); have n2_ := Aside0.mk (hbox); have n3_ := Aside0.mk ((by rw [hg]; exact (below_size lb_) : w.heap.size ≤ gb187)); have n4_ := Aside0.mk ((by rw [hg]; exact (below_size lb_) : w.heap.size ≤ gb187)); clear HO_3; clear HB; have HO_3 := n0_; have HB := n1_; have BK187 := n2_; have GW187 := n3_; have GE187 := n4_; clear n0_ n1_ n2_ n3_ n4_; clear hb hbox hg; refine blk25_ BK187.out fun hcz9_0 hcz9_1 hcz9_2 hcz9_3 hcz9_4 hcz9_5 hcz9_6 hcz9_7 hcz9_8 hcz9_9 hcz9_10 hcz9_11 hcz9_12 hcz9_13 hcz9_14 hcz9_15 hcz9_16 hcz9_17 hcz9_18 hcz9_19 hcz9_20 hcz9_21 hcz9_22 hcz9_23 hcz9_24 hfz9_0 hfz9_1 hfz9_2 hfz9_3 hfz9_4 hfz9_5 hfz9_6 hfz9_7 hfz9_8 hfz9_9 hfz9_10 hfz9_11 hfz9_12 hfz9_13 hfz9_14 hfz9_15 hfz9_16 hfz9_17 hfz9_18 hfz9_19 hfz9_20 hfz9_21 hfz9_22 hfz9_23 hfz9_24 => ?_) | ((with_reducible refine gate_callee (f := 30) rfl ?_); refine goesL_ (some 14) rfl rfl Try.func30 (by kernel_rfl) rfl #[.agg #[.int .i64 ((rd_T44 l0 x8_1).f4.f0), .int .i64 ((rd_T44 l0 x8_1).f4.f1.f0), .int .i64 ((rd_T44 l0 x8_1).f4.f1.f1), .int .i64 ((rd_T44 l0 x8_1).f4.f2.f0), .int .i64 ((rd_T44 l0 x8_1).f4.f2.f1), .int .i64 ((rd_T44 l0 x8_1).f4.f3), .slice A186_13 ((rd_T44 l0 x8_1).f4.f4).length c186_13, .slice A186_14 ((rd_T44 l0 x8_1).f4.f5).length c186_14, .bool ((rd_T44 l0 x8_1).f4.f6)]] rfl (by (try simp only [List.map_toArray, List.map_cons, List.map_nil]); first | done | rfl | (simp only [List.length_drop, List.length_take]; rfl)) ?_; (with_reducible refine (althinglaw11_cloned.calls ((rd_T44 l0 x8_1).f4.f0) ((rd_T44 l0 x8_1).f4.f1.f0) ((rd_T44 l0 x8_1).f4.f1.f1) ((rd_T44 l0 x8_1).f4.f2.f0) ((rd_T44 l0 x8_1).f4.f2.f1) ((rd_T44 l0 x8_1).f4.f3) _ _ ((rd_T44 l0 x8_1).f4.f4) _ _ ((rd_T44 l0 x8_1).f4.f5) ((rd_T44 l0 x8_1).f4.f6) t188 t189 t190 t191 t192 t193 t194 t197 t200 _ ?side1 ?side2 ?side3 ?side4 A5.out).mono ?_); (case side1 => exact kc_ (Kd.C_below HR186_13.out HB.out)); (case side2 => exact HC186_13.out); (case side3 => exact kc_ (Kd.C_below HR186_14.out HB.out)); (case side4 => exact HC186_14.out); rintro e w10 ⟨v195, v198, rfl, ho0, ho1, hb⟩; refine ⟨_, rfl, ?_⟩; have n0_ := Aside0.mk (Kd.S_mono (Kd.S_told (Kd.S_told (Kd.S_old (ks_ HO_3.out) hb) (Kd.R_base ho0)) (Kd.R_base ho1)) (fun _ h_ => h_.1)); have n1_ := Aside0.mk (Kd.R_lower ho0 (below_size (by repeat (first | (with_reducible first | exact HB.out | apply below_alloc | apply pw_below_drewN | apply below_drew1 | refine below_set ?_ GE187.out) | exact HB.out)))); have n2_ := Aside0.mk (Kd.R_lower ho1 (below_size (by repeat (first | (with_reducible first | exact HB.out | apply below_alloc | apply pw_below_drewN | apply below_drew1 | refine below_set ?_ GE187.out) | exact HB.out)))); have n3_ := Aside0.mk (blk_below (kb_ BK187.out) hb); have n4_ := Aside0.mk (below_step (by repeat (first | (with_reducible first | exact HB.out | apply below_alloc | apply pw_below_drewN | apply below_drew1 | refine below_set ?_ GE187.out) | exact HB.out)) hb); clear HO_3; clear BK187; clear HB; have HO_3 := n0_; have HO196 := n1_; have HO199 := n2_; have BK187 := n3_; have HB := n4_; clear n0_ n1_ n2_ n3_ n4_; (try clear hb); (try clear hb2); (try clear hk); (try clear hi); (try clear ho0); (try clear ho1); refine blk25_ BK187.out fun hcz11_0 hcz11_1 hcz11_2 hcz11_3 hcz11_4 hcz11_5 hcz11_6 hcz11_7 hcz11_8 hcz11_9 hcz11_10 hcz11_11 hcz11_12 hcz11_13 hcz11_14 hcz11_15 hcz11_16 hcz11_17 hcz11_18 hcz11_19 hcz11_20 hcz11_21 hcz11_22 hcz11_23 hcz11_24 hfz11_0 hfz11_1 hfz11_2 hfz11_3 hfz11_4 hfz11_5 hfz11_6 hfz11_7 hfz11_8 hfz11_9 hfz11_10 hfz11_11 hfz11_12 hfz11_13 hfz11_14 hfz11_15 hfz11_16 hfz11_17 hfz11_18 hfz11_19 hfz11_20 hfz11_21 hfz11_22 hfz11_23 hfz11_24 => ?_; obtain ⟨Ao12, co12, eo12⟩ := Kd.R_slice HO196.out; subst eo12; obtain ⟨Ao13, co13, eo13⟩ := Kd.R_slice HO199.out; subst eo13) | ((with_reducible refine gate_store (t := 32) (p := 15) rfl ?_); refine store_event (t := 32) (p := 15) (v := ?vo_w14) (w1 := (((((((((w10.setCell ⟨gb187, 7, none⟩ (.int .i64 t188)).setCell ⟨gb187, 8, none⟩ (.int .i64 t189)).setCell ⟨gb187, 9, none⟩ (.int .i64 t190)).setCell ⟨gb187, 10, none⟩ (.int .i64 t191)).setCell ⟨gb187, 11, none⟩ (.int .i64 t192)).setCell ⟨gb187, 12, none⟩ (.int .i64 t193)).setCell ⟨gb187, 13, none⟩ (.slice Ao12 t194.length co12)).setCell ⟨gb187, 14, none⟩ (.slice Ao13 t197.length co13)).setCell ⟨gb187, 15, none⟩ (.bool t200))) ?hg ?ho ?hn ?hr ?_; (case ho => rfl); (case hg => rfl); (case hn => rfl); (case hr => first | (go_simp; done) | (go_simp; rfl)); intro w14 hw; have n0_ : Aside0 (Kd.S k44 44 w14 w.heap.size (fun k_ => some k_ ≠ (.slice Ao12 t194.length co12 : Value).ownBlock ∧ some k_ ≠ (.slice Ao13 t197.length co13 : Value).ownBlock ∧ k_ ≠ gb187) u3 x3_1) := ⟨(by rw [hw]; exact (by (with_reducible repeat (first | apply Kd.S_alloc | apply Kd.S_drewN | apply Kd.S_drew)); exact Kd.S_mono (Kd.S_far (p := ⟨gb187, 15, none⟩) (Kd.S_far (p := ⟨gb187, 14, none⟩) (Kd.S_far (p := ⟨gb187, 13, none⟩) (Kd.S_far (p := ⟨gb187, 12, none⟩) (Kd.S_far (p := ⟨gb187, 11, none⟩) (Kd.S_far (p := ⟨gb187, 10, none⟩) (Kd.S_far (p := ⟨gb187, 9, none⟩) (Kd.S_far (p := ⟨gb187, 8, none⟩) (Kd.S_far (p := ⟨gb187, 7, none⟩) (Kd.S_mono HO_3.out (fun k_ hk => (⟨hk, hk.1.1.2⟩ : _ ∧ k_ ≠ gb187))) (fun _ hk => hk.2) (.int .i64 t188)) (fun _ hk => hk.2) (.int .i64 t189)) (fun _ hk => hk.2) (.int .i64 t190)) (fun _ hk => hk.2) (.int .i64 t191)) (fun _ hk => hk.2) (.int .i64 t192)) (fun _ hk => hk.2) (.int .i64 t193)) (fun _ hk => hk.2) (.slice Ao12 t194.length co12)) (fun _ hk => hk.2) (.slice Ao13 t197.length co13)) (fun _ hk => hk.2) (.bool t200)) (fun _ hk => ⟨hk.1.1.2, ⟨hk.1.2, hk.1.1.1.2⟩⟩)))⟩; have n1_ : Aside0 (Kd.R k61 61 w14 w.heap.size (fun _ => True) (.slice Ao12 t194.length co12) t194) := ⟨(by rw [hw]; exact (by (with_reducible repeat (first | apply Kd.R_alloc | apply Kd.R_drewN | apply Kd.R_drew)); exact Kd.R_mono (Kd.R_far (p := ⟨gb187, 15, none⟩) (Kd.R_far (p := ⟨gb187, 14, none⟩) (Kd.R_far (p := ⟨gb187, 13, none⟩) (Kd.R_far (p := ⟨gb187, 12, none⟩) (Kd.R_far (p := ⟨gb187, 11, none⟩) (Kd.R_far (p := ⟨gb187, 10, none⟩) (Kd.R_far (p := ⟨gb187, 9, none⟩) (Kd.R_far (p := ⟨gb187, 8, none⟩) (Kd.R_far (p := ⟨gb187, 7, none⟩) (Kd.R_types HO196.out BK187.out (by decide)) (fun _ hk => hk.2) (.int .i64 t188)) (fun _ hk => hk.2) (.int .i64 t189)) (fun _ hk => hk.2) (.int .i64 t190)) (fun _ hk => hk.2) (.int .i64 t191)) (fun _ hk => hk.2) (.int .i64 t192)) (fun _ hk => hk.2) (.int .i64 t193)) (fun _ hk => hk.2) (.slice Ao12 t194.length co12)) (fun _ hk => hk.2) (.slice Ao13 t197.length co13)) (fun _ hk => hk.2) (.bool t200)) (fun _ hk => trivial)))⟩; have n2_ : Aside0 (Kd.R k46 46 w14 w.heap.size (fun _ => True) (.slice Ao13 t197.length co13) t197) := ⟨(by rw [hw]; exact (by (with_reducible repeat (first | apply Kd.R_alloc | apply Kd.R_drewN | apply Kd.R_drew)); exact Kd.R_mono (Kd.R_far (p := ⟨gb187, 15, none⟩) (Kd.R_far (p := ⟨gb187, 14, none⟩) (Kd.R_far (p := ⟨gb187, 13, none⟩) (Kd.R_far (p := ⟨gb187, 12, none⟩) (Kd.R_far (p := ⟨gb187, 11, none⟩) (Kd.R_far (p := ⟨gb187, 10, none⟩) (Kd.R_far (p := ⟨gb187, 9, none⟩) (Kd.R_far (p := ⟨gb187, 8, none⟩) (Kd.R_far (p := ⟨gb187, 7, none⟩) (Kd.R_types HO199.out BK187.out (by decide)) (fun _ hk => hk.2) (.int .i64 t188)) (fun _ hk => hk.2) (.int .i64 t189)) (fun _ hk => hk.2) (.int .i64 t190)) (fun _ hk => hk.2) (.int .i64 t191)) (fun _ hk => hk.2) (.int .i64 t192)) (fun _ hk => hk.2) (.int .i64 t193)) (fun _ hk => hk.2) (.slice Ao12 t194.length co12)) (fun _ hk => hk.2) (.slice Ao13 t197.length co13)) (fun _ hk => hk.2) (.bool t200)) (fun _ hk => trivial)))⟩; have n3_ : Aside0 (w14.heap[gb187]? = some (.cells #[.int .i64 ((rd_T44 l0 x8_1).f0.f0), .int .i64 ((rd_T44 l0 x8_1).f0.f1), .int .i64 ((rd_T44 l0 x8_1).f1), .int .i64 ((rd_T44 l0 x8_1).f2.f0), .int .i64 ((rd_T44 l0 x8_1).f2.f1), .int .i64 ((rd_T44 l0 x8_1).f3.f0), .int .i64 ((rd_T44 l0 x8_1).f3.f1), .int .i64 t188, .int .i64 t189, .int .i64 t190, .int .i64 t191, .int .i64 t192, .int .i64 t193, .slice Ao12 t194.length co12, .slice Ao13 t197.length co13, .bool t200, .int .i64 ((rd_T44 l0 x8_1).f5), .int .i64 ((rd_T44 l0 x8_1).f6.f0), .int .i64 ((rd_T44 l0 x8_1).f6.f1), .int .i64 ((rd_T44 l0 x8_1).f6.f2), .int .i64 ((rd_T44 l0 x8_1).f6.f3), .int .i64 ((rd_T44 l0 x8_1).f6.f4), .int .i64 ((rd_T44 l0 x8_1).f6.f5), .int .i64 ((rd_T44 l0 x8_1).f6.f6), .bool ((rd_T44 l0 x8_1).f7)] 44 (0, 0))) := ⟨(by rw [hw]; exact (by (with_reducible repeat (first | refine blk_drewN ?_ _ | refine blk_drew ?_ | refine blk_alloc ?_ _)); refine blk_put (cs := #[.int .i64 ((rd_T44 l0 x8_1).f0.f0), .int .i64 ((rd_T44 l0 x8_1).f0.f1), .int .i64 ((rd_T44 l0 x8_1).f1), .int .i64 ((rd_T44 l0 x8_1).f2.f0), .int .i64 ((rd_T44 l0 x8_1).f2.f1), .int .i64 ((rd_T44 l0 x8_1).f3.f0), .int .i64 ((rd_T44 l0 x8_1).f3.f1), .int .i64 t188, .int .i64 t189, .int .i64 t190, .int .i64 t191, .int .i64 t192, .int .i64 t193, .slice Ao12 t194.length co12, .slice Ao13 t197.length co13, .bool ((rd_T44 l0 x8_1).f4.f6), .int .i64 ((rd_T44 l0 x8_1).f5), .int .i64 ((rd_T44 l0 x8_1).f6.f0), .int .i64 ((rd_T44 l0 x8_1).f6.f1), .int .i64 ((rd_T44 l0 x8_1).f6.f2), .int .i64 ((rd_T44 l0 x8_1).f6.f3), .int .i64 ((rd_T44 l0 x8_1).f6.f4), .int .i64 ((rd_T44 l0 x8_1).f6.f5), .int .i64 ((rd_T44 l0 x8_1).f6.f6), .bool ((rd_T44 l0 x8_1).f7)]) ?_ 15 _ rfl; (with_reducible repeat (first | refine blk_drewN ?_ _ | refine blk_drew ?_ | refine blk_alloc ?_ _)); refine blk_put (cs := #[.int .i64 ((rd_T44 l0 x8_1).f0.f0), .int .i64 ((rd_T44 l0 x8_1).f0.f1), .int .i64 ((rd_T44 l0 x8_1).f1), .int .i64 ((rd_T44 l0 x8_1).f2.f0), .int .i64 ((rd_T44 l0 x8_1).f2.f1), .int .i64 ((rd_T44 l0 x8_1).f3.f0), .int .i64 ((rd_T44 l0 x8_1).f3.f1), .int .i64 t188, .int .i64 t189, .int .i64 t190, .int .i64 t191, .int .i64 t192, .int .i64 t193, .slice Ao12 t194.length co12, .slice A186_14 ((rd_T44 l0 x8_1).f4.f5).length c186_14, .bool ((rd_T44 l0 x8_1).f4.f6), .int .i64 ((rd_T44 l0 x8_1).f5), .int .i64 ((rd_T44 l0 x8_1).f6.f0), .int .i64 ((rd_T44 l0 x8_1).f6.f1), .int .i64 ((rd_T44 l0 x8_1).f6.f2), .int .i64 ((rd_T44 l0 x8_1).f6.f3), .int .i64 ((rd_T44 l0 x8_1).f6.f4), .int .i64 ((rd_T44 l0 x8_1).f6.f5), .int .i64 ((rd_T44 l0 x8_1).f6.f6), .bool ((rd_T44 l0 x8_1).f7)]) ?_ 14 _ rfl; (with_reducible repeat (first | refine blk_drewN ?_ _ | refine blk_drew ?_ | refine blk_alloc ?_ _)); refine blk_put (cs := #[.int .i64 ((rd_T44 l0 x8_1).f0.f0), .int .i64 ((rd_T44 l0 x8_1).f0.f1), .int .i64 ((rd_T44 l0 x8_1).f1), .int .i64 ((rd_T44 l0 x8_1).f2.f0), .int .i64 ((rd_T44 l0 x8_1).f2.f1), .int .i64 ((rd_T44 l0 x8_1).f3.f0), .int .i64 ((rd_T44 l0 x8_1).f3.f1), .int .i64 t188, .int .i64 t189, .int .i64 t190, .int .i64 t191, .int .i64 t192, .int .i64 t193, .slice A186_13 ((rd_T44 l0 x8_1).f4.f4).length c186_13, .slice A186_14 ((rd_T44 l0 x8_1).f4.f5).length c186_14, .bool ((rd_T44 l0 x8_1).f4.f6), .int .i64 ((rd_T44 l0 x8_1).f5), .int .i64 ((rd_T44 l0 x8_1).f6.f0), .int .i64 ((rd_T44 l0 x8_1).f6.f1), .int .i64 ((rd_T44 l0 x8_1).f6.f2), .int .i64 ((rd_T44 l0 x8_1).f6.f3), .int .i64 ((rd_T44 l0 x8_1).f6.f4), .int .i64 ((rd_T44 l0 x8_1).f6.f5), .int .i64 ((rd_T44 l0 x8_1).f6.f6), .bool ((rd_T44 l0 x8_1).f7)]) ?_ 13 _ rfl; (with_reducible repeat (first | refine blk_drewN ?_ _ | refine blk_drew ?_ | refine blk_alloc ?_ _)); refine blk_put (cs := #[.int .i64 ((rd_T44 l0 x8_1).f0.f0), .int .i64 ((rd_T44 l0 x8_1).f0.f1), .int .i64 ((rd_T44 l0 x8_1).f1), .int .i64 ((rd_T44 l0 x8_1).f2.f0), .int .i64 ((rd_T44 l0 x8_1).f2.f1), .int .i64 ((rd_T44 l0 x8_1).f3.f0), .int .i64 ((rd_T44 l0 x8_1).f3.f1), .int .i64 t188, .int .i64 t189, .int .i64 t190, .int .i64 t191, .int .i64 t192, .int .i64 ((rd_T44 l0 x8_1).f4.f3), .slice A186_13 ((rd_T44 l0 x8_1).f4.f4).length c186_13, .slice A186_14 ((rd_T44 l0 x8_1).f4.f5).length c186_14, .bool ((rd_T44 l0 x8_1).f4.f6), .int .i64 ((rd_T44 l0 x8_1).f5), .int .i64 ((rd_T44 l0 x8_1).f6.f0), .int .i64 ((rd_T44 l0 x8_1).f6.f1), .int .i64 ((rd_T44 l0 x8_1).f6.f2), .int .i64 ((rd_T44 l0 x8_1).f6.f3), .int .i64 ((rd_T44 l0 x8_1).f6.f4), .int .i64 ((rd_T44 l0 x8_1).f6.f5), .int .i64 ((rd_T44 l0 x8_1).f6.f6), .bool ((rd_T44 l0 x8_1).f7)]) ?_ 12 _ rfl; (with_reducible repeat (first | refine blk_drewN ?_ _ | refine blk_drew ?_ | refine blk_alloc ?_ _)); refine blk_put (cs := #[.int .i64 ((rd_T44 l0 x8_1).f0.f0), .int .i64 ((rd_T44 l0 x8_1).f0.f1), .int .i64 ((rd_T44 l0 x8_1).f1), .int .i64 ((rd_T44 l0 x8_1).f2.f0), .int .i64 ((rd_T44 l0 x8_1).f2.f1), .int .i64 ((rd_T44 l0 x8_1).f3.f0), .int .i64 ((rd_T44 l0 x8_1).f3.f1), .int .i64 t188, .int .i64 t189, .int .i64 t190, .int .i64 t191, .int .i64 ((rd_T44 l0 x8_1).f4.f2.f1), .int .i64 ((rd_T44 l0 x8_1).f4.f3), .slice A186_13 ((rd_T44 l0 x8_1).f4.f4).length c186_13, .slice A186_14 ((rd_T44 l0 x8_1).f4.f5).length c186_14, .bool ((rd_T44 l0 x8_1).f4.f6), .int .i64 ((rd_T44 l0 x8_1).f5), .int .i64 ((rd_T44 l0 x8_1).f6.f0), .int .i64 ((rd_T44 l0 x8_1).f6.f1), .int .i64 ((rd_T44 l0 x8_1).f6.f2), .int .i64 ((rd_T44 l0 x8_1).f6.f3), .int .i64 ((rd_T44 l0 x8_1).f6.f4), .int .i64 ((rd_T44 l0 x8_1).f6.f5), .int .i64 ((rd_T44 l0 x8_1).f6.f6), .bool ((rd_T44 l0 x8_1).f7)]) ?_ 11 _ rfl; (with_reducible repeat (first | refine blk_drewN ?_ _ | refine blk_drew ?_ | refine blk_alloc ?_ _)); refine blk_put (cs := #[.int .i64 ((rd_T44 l0 x8_1).f0.f0), .int .i64 ((rd_T44 l0 x8_1).f0.f1), .int .i64 ((rd_T44 l0 x8_1).f1), .int .i64 ((rd_T44 l0 x8_1).f2.f0), .int .i64 ((rd_T44 l0 x8_1).f2.f1), .int .i64 ((rd_T44 l0 x8_1).f3.f0), .int .i64 ((rd_T44 l0 x8_1).f3.f1), .int .i64 t188, .int .i64 t189, .int .i64 t190, .int .i64 ((rd_T44 l0 x8_1).f4.f2.f0), .int .i64 ((rd_T44 l0 x8_1).f4.f2.f1), .int .i64 ((rd_T44 l0 x8_1).f4.f3), .slice A186_13 ((rd_T44 l0 x8_1).f4.f4).length c186_13, .slice A186_14 ((rd_T44 l0 x8_1).f4.f5).length c186_14, .bool ((rd_T44 l0 x8_1).f4.f6), .int .i64 ((rd_T44 l0 x8_1).f5), .int .i64 ((rd_T44 l0 x8_1).f6.f0), .int .i64 ((rd_T44 l0 x8_1).f6.f1), .int .i64 ((rd_T44 l0 x8_1).f6.f2), .int .i64 ((rd_T44 l0 x8_1).f6.f3), .int .i64 ((rd_T44 l0 x8_1).f6.f4), .int .i64 ((rd_T44 l0 x8_1).f6.f5), .int .i64 ((rd_T44 l0 x8_1).f6.f6), .bool ((rd_T44 l0 x8_1).f7)]) ?_ 10 _ rfl; (with_reducible repeat (first | refine blk_drewN ?_ _ | refine blk_drew ?_ | refine blk_alloc ?_ _)); refine blk_put (cs := #[.int .i64 ((rd_T44 l0 x8_1).f0.f0), .int .i64 ((rd_T44 l0 x8_1).f0.f1), .int .i64 ((rd_T44 l0 x8_1).f1), .int .i64 ((rd_T44 l0 x8_1).f2.f0), .int .i64 ((rd_T44 l0 x8_1).f2.f1), .int .i64 ((rd_T44 l0 x8_1).f3.f0), .int .i64 ((rd_T44 l0 x8_1).f3.f1), .int .i64 t188, .int .i64 t189, .int .i64 ((rd_T44 l0 x8_1).f4.f1.f1), .int .i64 ((rd_T44 l0 x8_1).f4.f2.f0), .int .i64 ((rd_T44 l0 x8_1).f4.f2.f1), .int .i64 ((rd_T44 l0 x8_1).f4.f3), .slice A186_13 ((rd_T44 l0 x8_1).f4.f4).length c186_13, .slice A186_14 ((rd_T44 l0 x8_1).f4.f5).length c186_14, .bool ((rd_T44 l0 x8_1).f4.f6), .int .i64 ((rd_T44 l0 x8_1).f5), .int .i64 ((rd_T44 l0 x8_1).f6.f0), .int .i64 ((rd_T44 l0 x8_1).f6.f1), .int .i64 ((rd_T44 l0 x8_1).f6.f2), .int .i64 ((rd_T44 l0 x8_1).f6.f3), .int .i64 ((rd_T44 l0 x8_1).f6.f4), .int .i64 ((rd_T44 l0 x8_1).f6.f5), .int .i64 ((rd_T44 l0 x8_1).f6.f6), .bool ((rd_T44 l0 x8_1).f7)]) ?_ 9 _ rfl; (with_reducible repeat (first | refine blk_drewN ?_ _ | refine blk_drew ?_ | refine blk_alloc ?_ _)); refine blk_put (cs := #[.int .i64 ((rd_T44 l0 x8_1).f0.f0), .int .i64 ((rd_T44 l0 x8_1).f0.f1), .int .i64 ((rd_T44 l0 x8_1).f1), .int .i64 ((rd_T44 l0 x8_1).f2.f0), .int .i64 ((rd_T44 l0 x8_1).f2.f1), .int .i64 ((rd_T44 l0 x8_1).f3.f0), .int .i64 ((rd_T44 l0 x8_1).f3.f1), .int .i64 t188, .int .i64 ((rd_T44 l0 x8_1).f4.f1.f0), .int .i64 ((rd_T44 l0 x8_1).f4.f1.f1), .int .i64 ((rd_T44 l0 x8_1).f4.f2.f0), .int .i64 ((rd_T44 l0 x8_1).f4.f2.f1), .int .i64 ((rd_T44 l0 x8_1).f4.f3), .slice A186_13 ((rd_T44 l0 x8_1).f4.f4).length c186_13, .slice A186_14 ((rd_T44 l0 x8_1).f4.f5).length c186_14, .bool ((rd_T44 l0 x8_1).f4.f6), .int .i64 ((rd_T44 l0 x8_1).f5), .int .i64 ((rd_T44 l0 x8_1).f6.f0), .int .i64 ((rd_T44 l0 x8_1).f6.f1), .int .i64 ((rd_T44 l0 x8_1).f6.f2), .int .i64 ((rd_T44 l0 x8_1).f6.f3), .int .i64 ((rd_T44 l0 x8_1).f6.f4), .int .i64 ((rd_T44 l0 x8_1).f6.f5), .int .i64 ((rd_T44 l0 x8_1).f6.f6), .bool ((rd_T44 l0 x8_1).f7)]) ?_ 8 _ rfl; (with_reducible repeat (first | refine blk_drewN ?_ _ | refine blk_drew ?_ | refine blk_alloc ?_ _)); refine blk_put (cs := #[.int .i64 ((rd_T44 l0 x8_1).f0.f0), .int .i64 ((rd_T44 l0 x8_1).f0.f1), .int .i64 ((rd_T44 l0 x8_1).f1), .int .i64 ((rd_T44 l0 x8_1).f2.f0), .int .i64 ((rd_T44 l0 x8_1).f2.f1), .int .i64 ((rd_T44 l0 x8_1).f3.f0), .int .i64 ((rd_T44 l0 x8_1).f3.f1), .int .i64 ((rd_T44 l0 x8_1).f4.f0), .int .i64 ((rd_T44 l0 x8_1).f4.f1.f0), .int .i64 ((rd_T44 l0 x8_1).f4.f1.f1), .int .i64 ((rd_T44 l0 x8_1).f4.f2.f0), .int .i64 ((rd_T44 l0 x8_1).f4.f2.f1), .int .i64 ((rd_T44 l0 x8_1).f4.f3), .slice A186_13 ((rd_T44 l0 x8_1).f4.f4).length c186_13, .slice A186_14 ((rd_T44 l0 x8_1).f4.f5).length c186_14, .bool ((rd_T44 l0 x8_1).f4.f6), .int .i64 ((rd_T44 l0 x8_1).f5), .int .i64 ((rd_T44 l0 x8_1).f6.f0), .int .i64 ((rd_T44 l0 x8_1).f6.f1), .int .i64 ((rd_T44 l0 x8_1).f6.f2), .int .i64 ((rd_T44 l0 x8_1).f6.f3), .int .i64 ((rd_T44 l0 x8_1).f6.f4), .int .i64 ((rd_T44 l0 x8_1).f6.f5), .int .i64 ((rd_T44 l0 x8_1).f6.f6), .bool ((rd_T44 l0 x8_1).f7)]) ?_ 7 _ rfl; (with_reducible repeat (first | refine blk_drewN ?_ _ | refine blk_drew ?_ | refine blk_alloc ?_ _)); exact BK187.out))⟩; have n4_ : Aside0 (Below w.heap.size w w14) := ⟨(by rw [hw]; exact (by repeat (first | (with_reducible first | exact HB.out | apply below_alloc | apply pw_below_drewN | apply below_drew1 | refine below_set ?_ GE187.out) | exact HB.out)))⟩; clear hw; clear HO_3; clear HO196; clear HO199; clear BK187; clear HB; have HO_3 := n0_; have HO196 := n1_; have HO199 := n2_; have BK187 := n3_; have HB := n4_; clear n0_ n1_ n2_ n3_ n4_) | ((with_reducible refine gate_dst (N := 17) rfl ?_); (try (refine gate_guard (by rfl) ?_; dsimp only)); refine blk_load_event ?lg (N := 17) ?ld (t := 44) (x := ?lxxz15) ?lo (g := gb187) ?lx (cs := _) BK187.out ?lD ?lt ?_; (case lg => rfl); (case ld => rfl); (case lo => rfl); (case lx => first | rfl | (go_simp; done) | (go_simp; rfl)); (case lD => exact ⟨_, Try.underlying44, rfl⟩); (case lt => kernel_rfl)) | ((with_reducible refine gate_builtin (b := .append) (xs := #[.tmp 16, .tmp 18]) rfl ?_); at_builtin; refine Kd.S_append k44 (w0 := w) w.heap.size rfl (.tmp 16) (.tmp 18) 22 44 (.agg #[(.int .i64 0), (.int .i64 0), (.int .i64 0), (.int .i64 0), (.int .i64 0), (.int .i64 0), (.int .i64 0), (.int .i64 0), (.int .i64 0), (.int .i64 0), (.int .i64 0), (.int .i64 0), (.int .i64 0), (.slice none 0 0), (.slice none 0 0), (.bool false), (.int .i64 0), (.int .i64 0), (.int .i64 0), (.int .i64 0), (.int .i64 0), (.int .i64 0), (.int .i64 0), (.int .i64 0), (.bool false)]) 232 rfl Try.underlying22 info44 rfl (by decide) (by omega) u3 x3_1 (⟨(⟨(rd_T44 l0 x8_1).f0.f0, (rd_T44 l0 x8_1).f0.f1⟩ : S24), (rd_T44 l0 x8_1).f1, (⟨(rd_T44 l0 x8_1).f2.f0, (rd_T44 l0 x8_1).f2.f1⟩ : S40), (⟨(rd_T44 l0 x8_1).f3.f0, (rd_T44 l0 x8_1).f3.f1⟩ : S40), (⟨t188, (⟨t189, t190⟩ : S26), (⟨t191, t192⟩ : S28), t193, t194, t197, t200⟩ : S32), (rd_T44 l0 x8_1).f5, (⟨(rd_T44 l0 x8_1).f6.f0, (rd_T44 l0 x8_1).f6.f1, (rd_T44 l0 x8_1).f6.f2, (rd_T44 l0 x8_1).f6.f3, (rd_T44 l0 x8_1).f6.f4, (rd_T44 l0 x8_1).f6.f5, (rd_T44 l0 x8_1).f6.f6⟩ : S42), (rd_T44 l0 x8_1).f7⟩ : S44) [.int .i64 ((rd_T44 l0 x8_1).f0.f0), .int .i64 ((rd_T44 l0 x8_1).f0.f1), .int .i64 ((rd_T44 l0 x8_1).f1), .int .i64 ((rd_T44 l0 x8_1).f2.f0), .int .i64 ((rd_T44 l0 x8_1).f2.f1), .int .i64 ((rd_T44 l0 x8_1).f3.f0), .int .i64 ((rd_T44 l0 x8_1).f3.f1), .int .i64 t188, .int .i64 t189, .int .i64 t190, .int .i64 t191, .int .i64 t192, .int .i64 t193, .slice Ao12 t194.length co12, .slice Ao13 t197.length co13, .bool t200, .int .i64 ((rd_T44 l0 x8_1).f5), .int .i64 ((rd_T44 l0 x8_1).f6.f0), .int .i64 ((rd_T44 l0 x8_1).f6.f1), .int .i64 ((rd_T44 l0 x8_1).f6.f2), .int .i64 ((rd_T44 l0 x8_1).f6.f3), .int .i64 ((rd_T44 l0 x8_1).f6.f4), .int .i64 ((rd_T44 l0 x8_1).f6.f5), .int .i64 ((rd_T44 l0 x8_1).f6.f6), .bool ((rd_T44 l0 x8_1).f7)] (fun k_ => k_ ≠ gb187) (fun k_ => some k_ = (.slice Ao12 t194.length co12 : Value).ownBlock ∨ some k_ = (.slice Ao13 t197.length co13 : Value).ownBlock) rfl rfl ?aP (fun k_ hk_ => hk_.elim (fun h_ => ((Kd.R_mono (ok' := fun k_ => ((fun k_ => k_ ≠ gb187)) k_ ∧ some k_ ≠ (u3 : Value).ownBlock) (Kd.R_types (Kd.R_apart' (HO196.out) (Kd.S_typed HO_3.out) (by decide)) BK187.out (by decide)) (fun k_ hk => ⟨hk.2, hk.1.2⟩))).1 k_ h_.symm) (fun h_ => ((Kd.R_mono (ok' := fun k_ => ((fun k_ => k_ ≠ gb187)) k_ ∧ some k_ ≠ (u3 : Value).ownBlock) (Kd.R_types (Kd.R_apart' (HO199.out) (Kd.S_typed HO_3.out) (by decide)) BK187.out (by decide)) (fun k_ hk => ⟨hk.2, hk.1.2⟩))).1 k_ h_.symm)) ?aF ?aO ?aB ?aS ?aL ?_; (case aP => exact k44_mkM _ _ _ (⟨(⟨(rd_T44 l0 x8_1).f0.f0, (rd_T44 l0 x8_1).f0.f1⟩ : S24), (rd_T44 l0 x8_1).f1, (⟨(rd_T44 l0 x8_1).f2.f0, (rd_T44 l0 x8_1).f2.f1⟩ : S40), (⟨(rd_T44 l0 x8_1).f3.f0, (rd_T44 l0 x8_1).f3.f1⟩ : S40), (⟨t188, (⟨t189, t190⟩ : S26), (⟨t191, t192⟩ : S28), t193, t194, t197, t200⟩ : S32), (rd_T44 l0 x8_1).f5, (⟨(rd_T44 l0 x8_1).f6.f0, (rd_T44 l0 x8_1).f6.f1, (rd_T44 l0 x8_1).f6.f2, (rd_T44 l0 x8_1).f6.f3, (rd_T44 l0 x8_1).f6.f4, (rd_T44 l0 x8_1).f6.f5, (rd_T44 l0 x8_1).f6.f6⟩ : S42), (rd_T44 l0 x8_1).f7⟩ : S44) (Kd.R_mono (Kd.R_tight rfl (Kd.R_mono (ok' := fun k_ => ((fun k_ => k_ ≠ gb187)) k_ ∧ some k_ ≠ (u3 : Value).ownBlock) (Kd.R_types (Kd.R_apart' (HO196.out) (Kd.S_typed HO_3.out) (by decide)) BK187.out (by decide)) (fun k_ hk => ⟨hk.2, hk.1.2⟩))) (fun _ h_ => Or.inl h_)) (Kd.R_mono (Kd.R_tight rfl (Kd.R_mono (ok' := fun k_ => ((fun k_ => k_ ≠ gb187)) k_ ∧ some k_ ≠ (u3 : Value).ownBlock) (Kd.R_types (Kd.R_apart' (HO199.out) (Kd.S_typed HO_3.out) (by decide)) BK187.out (by decide)) (fun k_ hk => ⟨hk.2, hk.1.2⟩))) (fun _ h_ => Or.inr (h_)))); (case aB => exact (by repeat (first | (with_reducible first | exact HB.out | apply below_alloc | apply pw_below_drewN | apply below_drew1 | refine below_set ?_ GE187.out) | exact HB.out))); (case aF => exact (fun k_ hk => Kd.freshB (g := gb187) (o := .cells #[.int .i64 ((rd_T44 l0 x8_1).f0.f0), .int .i64 ((rd_T44 l0 x8_1).f0.f1), .int .i64 ((rd_T44 l0 x8_1).f1), .int .i64 ((rd_T44 l0 x8_1).f2.f0), .int .i64 ((rd_T44 l0 x8_1).f2.f1), .int .i64 ((rd_T44 l0 x8_1).f3.f0), .int .i64 ((rd_T44 l0 x8_1).f3.f1), .int .i64 t188, .int .i64 t189, .int .i64 t190, .int .i64 t191, .int .i64 t192, .int .i64 t193, .slice Ao12 t194.length co12, .slice Ao13 t197.length co13, .bool t200, .int .i64 ((rd_T44 l0 x8_1).f5), .int .i64 ((rd_T44 l0 x8_1).f6.f0), .int .i64 ((rd_T44 l0 x8_1).f6.f1), .int .i64 ((rd_T44 l0 x8_1).f6.f2), .int .i64 ((rd_T44 l0 x8_1).f6.f3), .int .i64 ((rd_T44 l0 x8_1).f6.f4), .int .i64 ((rd_T44 l0 x8_1).f6.f5), .int .i64 ((rd_T44 l0 x8_1).f6.f6), .bool ((rd_T44 l0 x8_1).f7)] 44 (0, 0)) (kb_ BK187.out) k_ hk)); (case aO => exact (by (with_reducible repeat (first | apply Kd.S_alloc | apply Kd.S_drewN | apply Kd.S_drew)); exact Kd.S_mono HO_3.out (fun k_ hk => ⟨hk.2.2, fun e_ => e_.elim (fun h_ => hk.1 h_) (fun h_ => hk.2.1 h_)⟩))); (case aS => exact (below_size (by repeat (first | (with_reducible first | exact HB.out | apply below_alloc | apply pw_below_drewN | apply below_drew1 | refine below_set ?_ GE187.out) | exact HB.out)))); (case aL => have := LMc6.out; omega); intro v202 w16 ho hb hg hat; rw [← Ny201.out] at ho; have n0_ := Aside0.mk (blk_grown (kb_ BK187.out) hg (Kd.S_away HO_3.out (fun _ hk => hk.2.2))); have n1_ := Aside0.mk (hb); have n2_ := Aside0.mk (ho); clear BK187; clear HB; clear HO_3; clear HO196; clear HO199; have BK187 := n0_; have HB := n1_; have HO203 := n2_; clear n0_ n1_ n2_; clear ho hb hg hat))
           go_roundg k1
           case measure => have := HK1.out; omega
           case rel => exact ⟨(y201), (wrap64 (x8_1 + 1)), (by first | rfl | (simp; done) | (simp [*]; done)), H', ⟨by have := HK1.out; omega⟩, ⟨by (with_reducible repeat (first | apply Kd.S_alloc | apply Kd.S_drewN | apply Kd.S_drew)); exact Kd.S_mono HO203.out (fun _ hk => trivial)⟩, ⟨by repeat (first | (with_reducible first | exact HB.out | apply below_alloc | apply pw_below_drewN | apply below_drew1 | refine below_set ?_ GE187.out) | exact HB.out)⟩⟩
         · rw [if_neg c6] at H
           exact absurd H (by simp)
       · rw [if_neg c4] at H
         exact absurd H (by simp)
     · rw [if_neg c3] at H
       exact absurd H (by simp)
   · rw [if_neg c2] at H
     have c2b0 : decide (x8_1 < (l0.length : Int)) = false := decide_eq_false c2
     clear c2
     obtain rfl := Option.some.inj H
     go_wp2
     go_ret
     exact ⟨_, by first | rfl | (simp [errW_none, errW_some] <;> rfl) | (simp [*, errW_none, errW_some] <;> rfl), by (with_reducible repeat (first | apply Kd.S_alloc | apply Kd.S_drewN | apply Kd.S_drew)); exact HO_3.out, by repeat (first | (with_reducible first | exact HB.out | apply below_alloc | apply pw_below_drewN | apply below_drew1) | exact HB.out)⟩
end Go.Proofs.Ytklbmdakoeoplaa.X
end
section
namespace Go.Proofs.Ytklbmdakoeoplaa.X
open Go.RowKit Go.Proofs.YtklbmdakoeoplaaW.PrintWords Go.Proofs.YtklbmdakoeoplaaW.PrintLast Go.Proofs.YtklbmdakoeoplaaW.PrintMore
attribute [local go_sem] max2_int min2_int max_two min_two max_three min_three max_four min_four   -- for this text's walks alone
set_option linter.unusedVariables false
set_option linter.unusedSimpArgs false
attribute [local go_sem high] eqA24
/-! ### althingref11_Last: function 24 -/
def althingref11_Last.l0 : Nat → List (S44) → Int → Int → Option (Bool)
 | 0, _, _, _ => none
 | k + 1, x0, x1, x5 => if x5 < (x0.length : Int) then (if 0 ≤ x5 then (if 0 ≤ x1 then (if x1 < (x0.length : Int) then (if (((rd_T44 x0 x5).f0.f0) == ((rd_T44 x0 x1).f0.f0) && (((rd_T44 x0 x5).f0.f1) == ((rd_T44 x0 x1).f0.f1))) = true then (some false) else (althingref11_Last.l0 k x0 x1 (wrap64 (x5 + 1)))) else (none)) else (none)) else (none)) else (some true)
def althingref11_Last.f (k : Nat) (l0 : List (S44)) (a1 : Int) : Option (Bool) := althingref11_Last.l0 k l0 a1 (wrap64 (a1 + 1))
set_option maxHeartbeats 8000000 in
set_option maxRecDepth 100000 in
theorem althingref11_Last.calls (k : Nat) (A0 : Option Addr) (c0 : Nat) (l0 : List (S44)) (a1 : Int) (r : Bool) (w : World) (hr0 : Kd.C k44 w A0 l0.length l0) (hc0 : l0.length ≤ c0) (h : althingref11_Last.f k l0 a1 = some r) :
 Calls Try.prog 24 #[.slice A0 l0.length c0, .int .i64 a1] w fun e w' => e = .returned (.bool r) ∧ Drawn0 w w' := by
 have hu24 := Try.underlying24
 have HR0 := Aside0.mk hr0
 have HC0 := Aside0.mk hc0
 clear hr0 hc0
 have H : (althingref11_Last.l0 k l0 a1 (wrap64 (a1 + 1))) = some r := h
 clear h
 have H' := Aside0.mk H
 clear H
 go_enter Try.func24, Try.ntmps24
 go_wp2
 repeat (go_quiet (fail); try go_wp2)
 go_loopg [5] k (fun kq v5 w' => ∃ (x5_1 : Int), v5 = .int .i64 x5_1 ∧ Aside0 (althingref11_Last.l0 kq l0 a1 x5_1 = some r) ∧ Aside0 (kq ≤ k) ∧ Drawn0 w w')
 case atStart => exact ⟨(wrap64 (a1 + 1)), (by first | rfl | (simp; done) | (simp [*]; done)), H', ⟨Nat.le_refl _⟩, by repeat (first | exact Drawn0.refl _ | apply Drawn0.step)⟩
 case round =>
  clear H'
  try clear c2
  try clear p2
  obtain ⟨x5_1, rfl, HA, HK1, ⟨m1, rfl⟩⟩ := hrel
  cases gk with
  | zero => exact absurd HA.out (by simp [althingref11_Last.l0])
  | succ k1 =>
   have H := HA.out
   clear HA
   simp only [althingref11_Last.l0] at H
   by_cases c3 : x5_1 < (l0.length : Int)
   · rw [if_pos c3] at H
     have c3b0 : decide (x5_1 < (l0.length : Int)) = true := decide_eq_true c3
     clear c3
     by_cases c4 : 0 ≤ x5_1
     · rw [if_pos c4] at H
       have c4b0 : decide (0 ≤ x5_1) = true := decide_eq_true c4
       clear c4
       by_cases c5 : 0 ≤ a1
       · rw [if_pos c5] at H
         have c5b0 : decide (0 ≤ a1) = true := decide_eq_true c5
         clear c5
         by_cases c6 : a1 < (l0.length : Int)
         · rw [if_pos c6] at H
           have c6b0 : decide (a1 < (l0.length : Int)) = true := decide_eq_true c6
           clear c6
           by_cases c7 : (((rd_T44 l0 x5_1).f0.f0) == ((rd_T44 l0 a1).f0.f0) && (((rd_T44 l0 x5_1).f0.f1) == ((rd_T44 l0 a1).f0.f1))) = true
           · rw [if_pos c7] at H
             have c7b0 : (((rd_T44 l0 x5_1).f0.f0) == ((rd_T44 l0 a1).f0.f0) && (((rd_T44 l0 x5_1).f0.f1) == ((rd_T44 l0 a1).f0.f1))) = true := c7
             (try (have c7b1 : decide (((rd_T44 l0 x5_1).f0.f0) = ((rd_T44 l0 a1).f0.f0) && (((rd_T44 l0 x5_1).f0.f1) == ((rd_T44 l0 a1).f0.f1))) = true := by simpa using c7))
             (try (have c7b2 : (((rd_T44 l0 x5_1).f0.f0) == ((rd_T44 l0 a1).f0.f0) && (((rd_T44 l0 x5_1).f0.f1) == ((rd_T44 l0 a1).f0.f1))) = true := by simpa using c7))
             clear c7
             obtain rfl := Option.some.inj H
             have p253 : 0 ≤ (x5_1 : Int) := of_decide_eq_true (by first | (with_reducible assumption) | assumption)
             have q253 : x5_1 < (l0.length : Int) := of_decide_eq_true (by first | (with_reducible assumption) | assumption)
             obtain ⟨ad253, A253_13, c253_13, A253_14, c253_14, e253, hx253_0, hx253_1, hx253_2, hx253_3, hx253_4, hx253_5, hx253_6, hx253_7, hx253_8, hx253_9, hx253_10, hx253_11, hx253_12, hx253_13, hx253_14, hx253_15, hx253_16, hx253_17, hx253_18, hx253_19, hx253_20, hx253_21, hx253_22, hx253_23, hx253_24, hl253_13, hi253_13, hl253_14, hi253_14⟩ := at_T44 HR0.out x5_1 p253 q253
             cases e253
             have HR253_13 := Aside0.mk hi253_13
             have HC253_13 := Aside0.mk hl253_13
             clear hi253_13 hl253_13
             have HR253_14 := Aside0.mk hi253_14
             have HC253_14 := Aside0.mk hl253_14
             clear hi253_14 hl253_14
             replace p253 := eq_true p253
             replace q253 := eq_true q253
             have p254 : 0 ≤ (a1 : Int) := of_decide_eq_true (by first | (with_reducible assumption) | assumption)
             have q254 : a1 < (l0.length : Int) := of_decide_eq_true (by first | (with_reducible assumption) | assumption)
             obtain ⟨ad254, A254_13, c254_13, A254_14, c254_14, e254, hx254_0, hx254_1, hx254_2, hx254_3, hx254_4, hx254_5, hx254_6, hx254_7, hx254_8, hx254_9, hx254_10, hx254_11, hx254_12, hx254_13, hx254_14, hx254_15, hx254_16, hx254_17, hx254_18, hx254_19, hx254_20, hx254_21, hx254_22, hx254_23, hx254_24, hl254_13, hi254_13, hl254_14, hi254_14⟩ := at_T44 HR0.out a1 p254 q254
             obtain rfl : ad253 = ad254 := (by injection e254)
             have HR254_13 := Aside0.mk hi254_13
             have HC254_13 := Aside0.mk hl254_13
             clear hi254_13 hl254_13
             have HR254_14 := Aside0.mk hi254_14
             have HC254_14 := Aside0.mk hl254_14
             clear hi254_14 hl254_14
             replace p254 := eq_true p254
             replace q254 := eq_true q254
             go_wp2
             repeat (go_quiet (fail); try go_wp2)
             go_ret
             exact ⟨by first | rfl | (simp; done) | (simp [*]; done), by repeat (first | exact Drawn0.refl _ | apply Drawn0.step)⟩
           · rw [if_neg c7] at H
             have c7b0 : (((rd_T44 l0 x5_1).f0.f0) == ((rd_T44 l0 a1).f0.f0) && (((rd_T44 l0 x5_1).f0.f1) == ((rd_T44 l0 a1).f0.f1))) = false := by simpa using c7
             (try (have c7b1 : decide (((rd_T44 l0 x5_1).f0.f0) = ((rd_T44 l0 a1).f0.f0) && (((rd_T44 l0 x5_1).f0.f1) == ((rd_T44 l0 a1).f0.f1))) = false := by simpa using c7))
             (try (have c7b2 : (((rd_T44 l0 x5_1).f0.f0) == ((rd_T44 l0 a1).f0.f0) && (((rd_T44 l0 x5_1).f0.f1) == ((rd_T44 l0 a1).f0.f1))) = false := by simpa using c7))
             (try (have c7b3 : ¬ (((rd_T44 l0 x5_1).f0.f0) = ((rd_T44 l0 a1).f0.f0) && (((rd_T44 l0 x5_1).f0.f1) == ((rd_T44 l0 a1).f0.f1))) := by simpa using c7))
             clear c7
             have H' := Aside0.mk H
             clear H
             have p253 : 0 ≤ (x5_1 : Int) := of_decide_eq_true (by first | (with_reducible assumption) | assumption)
             have q253 : x5_1 < (l0.length : Int) := of_decide_eq_true (by first | (with_reducible assumption) | assumption)
             obtain ⟨ad253, A253_13, c253_13, A253_14, c253_14, e253, hx253_0, hx253_1, hx253_2, hx253_3, hx253_4, hx253_5, hx253_6, hx253_7, hx253_8, hx253_9, hx253_10, hx253_11, hx253_12, hx253_13, hx253_14, hx253_15, hx253_16, hx253_17, hx253_18, hx253_19, hx253_20, hx253_21, hx253_22, hx253_23, hx253_24, hl253_13, hi253_13, hl253_14, hi253_14⟩ := at_T44 HR0.out x5_1 p253 q253
             cases e253
             have HR253_13 := Aside0.mk hi253_13
             have HC253_13 := Aside0.mk hl253_13
             clear hi253_13 hl253_13
             have HR253_14 := Aside0.mk hi253_14
             have HC253_14 := Aside0.mk hl253_14
             clear hi253_14 hl253_14
             replace p253 := eq_true p253
             replace q253 := eq_true q253
             have p254 : 0 ≤ (a1 : Int) := of_decide_eq_true (by first | (with_reducible assumption) | assumption)
             have q254 : a1 < (l0.length : Int) := of_decide_eq_true (by first | (with_reducible assumption) | assumption)
             obtain ⟨ad254, A254_13, c254_13, A254_14, c254_14, e254, hx254_0, hx254_1, hx254_2, hx254_3, hx254_4, hx254_5, hx254_6, hx254_7, hx254_8, hx254_9, hx254_10, hx254_11, hx254_12, hx254_13, hx254_14, hx254_15, hx254_16, hx254_17, hx254_18, hx254_19, hx254_20, hx254_21, hx254_22, hx254_23, hx254_24, hl254_13, hi254_13, hl254_14, hi254_14⟩ := at_T44 HR0.out a1 p254 q254
             obtain rfl : ad253 = ad254 := (by injection e254)
             have HR254_13 := Aside0.mk hi254_13
             have HC254_13 := Aside0.mk hl254_13
             clear hi254_13 hl254_13
             have HR254_14 := Aside0.mk hi254_14
             have HC254_14 := Aside0.mk hl254_14
             clear hi254_14 hl254_14
             replace p254 := eq_true p254
             replace q254 := eq_true q254
             go_wp2
             repeat (go_quiet (fail); try go_wp2)
             go_roundg k1
             case measure => have := HK1.out; omega
             case rel => exact ⟨(wrap64 (x5_1 + 1)), (by first | rfl | (simp; done) | (simp [*]; done)), H', ⟨by have := HK1.out; omega⟩, by repeat (first | exact Drawn0.refl _ | apply Drawn0.step)⟩
         · rw [if_neg c6] at H
           exact absurd H (by simp)
       · rw [if_neg c5] at H
         exact absurd H (by simp)
     · rw [if_neg c4] at H
       exact absurd H (by simp)
   · rw [if_neg c3] at H
     have c3b0 : decide (x5_1 < (l0.length : Int)) = false := decide_eq_false c3
     clear c3
     obtain rfl := Option.some.inj H
     go_wp2
     repeat (go_quiet (fail); try go_wp2)
     go_ret
     exact ⟨by first | rfl | (simp; done) | (simp [*]; done), by repeat (first | exact Drawn0.refl _ | apply Drawn0.step)⟩
end Go.Proofs.Ytklbmdakoeoplaa.X
end
section
namespace Go.Proofs.Ytklbmdakoeoplaa.X
open Go.RowKit Go.Proofs.YtklbmdakoeoplaaW.PrintWords Go.Proofs.YtklbmdakoeoplaaW.PrintLast Go.Proofs.YtklbmdakoeoplaaW.PrintMore
attribute [local go_sem] max2_int min2_int max_two min_two max_three min_three max_four min_four   -- for this text's walks alone
set_option linter.unusedVariables false
set_option linter.unusedSimpArgs false
/-! ### althingref04_In: function 41 -/
def althingref04_In.l0 : Nat → List ByteArray → ByteArray → Int → Option (Bool)
 | 0, _, _, _ => none
 | k + 1, x0, x1, x5 => if x5 < (x0.length : Int) then (if 0 ≤ x5 then (if (rdOf ByteArray.empty x0 x5).toList = x1.toList then (some true) else (althingref04_In.l0 k x0 x1 (wrap64 (x5 + 1)))) else (none)) else (some false)
def althingref04_In.f (k : Nat) (l0 : List ByteArray) (a1 : ByteArray) : Option (Bool) := althingref04_In.l0 k l0 a1 0
set_option maxHeartbeats 8000000 in
set_option maxRecDepth 100000 in
theorem althingref04_In.calls (k : Nat) (A0 : Option Addr) (c0 : Nat) (l0 : List ByteArray) (a1 : ByteArray) (r : Bool) (w : World) (hr0 : Kd.C Kd.string w A0 l0.length l0) (hc0 : l0.length ≤ c0) (h : althingref04_In.f k l0 a1 = some r) :
 Calls Try.prog 41 #[.slice A0 l0.length c0, .string a1] w fun e w' => e = .returned (.bool r) ∧ Drawn0 w w' := by
 have HR0 := Aside0.mk hr0
 have HC0 := Aside0.mk hc0
 clear hr0 hc0
 have H : (althingref04_In.l0 k l0 a1 0) = some r := h
 clear h
 have H' := Aside0.mk H
 clear H
 go_enter Try.func41, Try.ntmps41
 go_wp2
 go_loopg [5] k (fun kq v5 w' => ∃ (x5_1 : Int), v5 = .int .i64 x5_1 ∧ Aside0 (althingref04_In.l0 kq l0 a1 x5_1 = some r) ∧ Aside0 (kq ≤ k) ∧ Drawn0 w w')
 case atStart => exact ⟨(0), (by first | rfl | (simp; done) | (simp [*]; done)), H', ⟨Nat.le_refl _⟩, by repeat (first | exact Drawn0.refl _ | apply Drawn0.step)⟩
 case round =>
  clear H'
  try clear p2
  obtain ⟨x5_1, rfl, HA, HK1, ⟨m1, rfl⟩⟩ := hrel
  cases gk with
  | zero => exact absurd HA.out (by simp [althingref04_In.l0])
  | succ k1 =>
   have H := HA.out
   clear HA
   simp only [althingref04_In.l0] at H
   by_cases c3 : x5_1 < (l0.length : Int)
   · rw [if_pos c3] at H
     have c3b0 : decide (x5_1 < (l0.length : Int)) = true := decide_eq_true c3
     clear c3
     by_cases c4 : 0 ≤ x5_1
     · rw [if_pos c4] at H
       have c4b0 : decide (0 ≤ x5_1) = true := decide_eq_true c4
       clear c4
       by_cases c5 : (rdOf ByteArray.empty l0 x5_1).toList = a1.toList
       · rw [if_pos c5] at H
         have c5b0 : ((rdOf ByteArray.empty l0 x5_1).toList == a1.toList) = true := beq_iff_eq.mpr c5
         have c5b1 : ((rdOf ByteArray.empty l0 x5_1).toList != a1.toList) = false := bne_eq_false_iff_eq.mpr c5
         clear c5
         obtain rfl := Option.some.inj H
         have p260 : 0 ≤ (x5_1 : Int) := of_decide_eq_true (by first | (with_reducible assumption) | assumption)
         have q260 : x5_1 < (l0.length : Int) := of_decide_eq_true (by first | (with_reducible assumption) | assumption)
         obtain ⟨ad260, e260, hx260_0⟩ := Kd.at_string HR0.out x5_1 p260 q260
         cases e260
         replace p260 := eq_true p260
         replace q260 := eq_true q260
         go_wp2
         go_ret
         exact ⟨by first | rfl | (simp; done) | (simp [*]; done), by repeat (first | exact Drawn0.refl _ | apply Drawn0.step)⟩
       · rw [if_neg c5] at H
         have c5b0 : ((rdOf ByteArray.empty l0 x5_1).toList == a1.toList) = false := beq_eq_false_iff_ne.mpr c5
         have c5b1 : ((rdOf ByteArray.empty l0 x5_1).toList != a1.toList) = true := bne_iff_ne.mpr c5
         have H' := Aside0.mk H
         clear H
         have p260 : 0 ≤ (x5_1 : Int) := of_decide_eq_true (by first | (with_reducible assumption) | assumption)
         have q260 : x5_1 < (l0.length : Int) := of_decide_eq_true (by first | (with_reducible assumption) | assumption)
         obtain ⟨ad260, e260, hx260_0⟩ := Kd.at_string HR0.out x5_1 p260 q260
         cases e260
         replace p260 := eq_true p260
         replace q260 := eq_true q260
         go_wp2
         go_roundg k1
         case measure => have := HK1.out; omega
         case rel => exact ⟨(wrap64 (x5_1 + 1)), (by first | rfl | (simp; done) | (simp [*]; done)), H', ⟨by have := HK1.out; omega⟩, by repeat (first | exact Drawn0.refl _ | apply Drawn0.step)⟩
     · rw [if_neg c4] at H
       exact absurd H (by simp)
   · rw [if_neg c3] at H
     have c3b0 : decide (x5_1 < (l0.length : Int)) = false := decide_eq_false c3
     clear c3
     obtain rfl := Option.some.inj H
     go_wp2
     go_ret
     exact ⟨by first | rfl | (simp; done) | (simp [*]; done), by repeat (first | exact Drawn0.refl _ | apply Drawn0.step)⟩
end Go.Proofs.Ytklbmdakoeoplaa.X
end
section
namespace Go.Proofs.Ytklbmdakoeoplaa.X
open Go.RowKit Go.Proofs.YtklbmdakoeoplaaW.PrintWords Go.Proofs.YtklbmdakoeoplaaW.PrintLast Go.Proofs.YtklbmdakoeoplaaW.PrintMore
attribute [local go_sem] max2_int min2_int max_two min_two max_three min_three max_four min_four   -- for this text's walks alone
set_option linter.unusedVariables false
set_option linter.unusedSimpArgs false
/-! ### althingref04_Before: function 55 -/
def althingref04_Before.l0 : Nat → ByteArray → ByteArray → Int → Option (Bool)
 | 0, _, _, _ => none
 | k + 1, x0, x1, x5 => if x5 < (x1.size : Int) then (if x5 = (x0.size : Int) then (some true) else (if 0 ≤ x5 then (if x5 < (x0.size : Int) then (if (bt x0 x5) = (bt x1 x5) then (althingref04_Before.l0 k x0 x1 (wrap64 (x5 + 1))) else (some (decide ((bt x0 x5) < (bt x1 x5))))) else (none)) else (none))) else (some false)
def althingref04_Before.f (k : Nat) (a0 : ByteArray) (a1 : ByteArray) : Option (Bool) := althingref04_Before.l0 k a0 a1 0
set_option maxHeartbeats 8000000 in
set_option maxRecDepth 100000 in
theorem althingref04_Before.calls (k : Nat) (a0 : ByteArray) (a1 : ByteArray) (r : Bool) (w : World) (h : althingref04_Before.f k a0 a1 = some r) :
 Calls Try.prog 55 #[.string a0, .string a1] w fun e w' => e = .returned (.bool r) ∧ Drawn0 w w' := by
 have H : (althingref04_Before.l0 k a0 a1 0) = some r := h
 clear h
 have H' := Aside0.mk H
 clear H
 go_enter Try.func55, Try.ntmps55
 go_wp2
 repeat (go_quiet (fail); try go_wp2)
 go_loopg [5] k (fun kq v5 w' => ∃ (x5_1 : Int), v5 = .int .i64 x5_1 ∧ Aside0 (althingref04_Before.l0 kq a0 a1 x5_1 = some r) ∧ Aside0 (kq ≤ k) ∧ Drawn0 w w')
 case atStart => exact ⟨(0), (by first | rfl | (simp; done) | (simp [*]; done)), H', ⟨Nat.le_refl _⟩, by repeat (first | exact Drawn0.refl _ | apply Drawn0.step)⟩
 case round =>
  clear H'
  try clear p2
  obtain ⟨x5_1, rfl, HA, HK1, ⟨m1, rfl⟩⟩ := hrel
  cases gk with
  | zero => exact absurd HA.out (by simp [althingref04_Before.l0])
  | succ k1 =>
   have H := HA.out
   clear HA
   simp only [althingref04_Before.l0] at H
   by_cases c3 : x5_1 < (a1.size : Int)
   · rw [if_pos c3] at H
     have c3b0 : decide (x5_1 < (a1.size : Int)) = true := decide_eq_true c3
     clear c3
     by_cases c4 : x5_1 = (a0.size : Int)
     · rw [if_pos c4] at H
       have c4b0 : (x5_1 == (a0.size : Int)) = true := beq_iff_eq.mpr c4
       have c4b1 : (x5_1 != (a0.size : Int)) = false := bne_eq_false_iff_eq.mpr c4
       clear c4
       obtain rfl := Option.some.inj H
       go_wp2
       repeat (go_quiet (fail); try go_wp2)
       go_ret
       exact ⟨by first | rfl | (simp; done) | (simp [*]; done), by repeat (first | exact Drawn0.refl _ | apply Drawn0.step)⟩
     · rw [if_neg c4] at H
       have c4b0 : (x5_1 == (a0.size : Int)) = false := beq_eq_false_iff_ne.mpr c4
       have c4b1 : (x5_1 != (a0.size : Int)) = true := bne_iff_ne.mpr c4
       by_cases c5 : 0 ≤ x5_1
       · rw [if_pos c5] at H
         have c5b0 : decide (0 ≤ x5_1) = true := decide_eq_true c5
         clear c5
         by_cases c6 : x5_1 < (a0.size : Int)
         · rw [if_pos c6] at H
           have c6b0 : decide (x5_1 < (a0.size : Int)) = true := decide_eq_true c6
           clear c6
           by_cases c9 : (bt a0 x5_1) = (bt a1 x5_1)
           · rw [if_pos c9] at H
             have c9b0 : ((bt a0 x5_1) == (bt a1 x5_1)) = true := beq_iff_eq.mpr c9
             have c9b1 : ((bt a0 x5_1) != (bt a1 x5_1)) = false := bne_eq_false_iff_eq.mpr c9
             clear c9
             have H' := Aside0.mk H
             clear H
             have p7 : 0 ≤ (x5_1 : Int) := of_decide_eq_true (by first | (with_reducible assumption) | assumption)
             have q7 : x5_1 < (a0.size : Int) := of_decide_eq_true (by first | (with_reducible assumption) | assumption)
             have hx7 := bt_at a0 x5_1
             replace p7 := eq_true p7
             replace q7 := eq_true q7
             have p8 : 0 ≤ (x5_1 : Int) := of_decide_eq_true (by first | (with_reducible assumption) | assumption)
             have q8 : x5_1 < (a1.size : Int) := of_decide_eq_true (by first | (with_reducible assumption) | assumption)
             have hx8 := bt_at a1 x5_1
             replace p8 := eq_true p8
             replace q8 := eq_true q8
             go_wp2
             repeat (go_quiet (fail); try go_wp2)
             go_roundg k1
             case measure => have := HK1.out; omega
             case rel => exact ⟨(wrap64 (x5_1 + 1)), (by first | rfl | (simp; done) | (simp [*]; done)), H', ⟨by have := HK1.out; omega⟩, by repeat (first | exact Drawn0.refl _ | apply Drawn0.step)⟩
           · rw [if_neg c9] at H
             have c9b0 : ((bt a0 x5_1) == (bt a1 x5_1)) = false := beq_eq_false_iff_ne.mpr c9
             have c9b1 : ((bt a0 x5_1) != (bt a1 x5_1)) = true := bne_iff_ne.mpr c9
             obtain rfl := Option.some.inj H
             have p7 : 0 ≤ (x5_1 : Int) := of_decide_eq_true (by first | (with_reducible assumption) | assumption)
             have q7 : x5_1 < (a0.size : Int) := of_decide_eq_true (by first | (with_reducible assumption) | assumption)
             have hx7 := bt_at a0 x5_1
             replace p7 := eq_true p7
             replace q7 := eq_true q7
             have p8 : 0 ≤ (x5_1 : Int) := of_decide_eq_true (by first | (with_reducible assumption) | assumption)
             have q8 : x5_1 < (a1.size : Int) := of_decide_eq_true (by first | (with_reducible assumption) | assumption)
             have hx8 := bt_at a1 x5_1
             replace p8 := eq_true p8
             replace q8 := eq_true q8
             have p10 : 0 ≤ (x5_1 : Int) := of_decide_eq_true (by first | (with_reducible assumption) | assumption)
             have q10 : x5_1 < (a0.size : Int) := of_decide_eq_true (by first | (with_reducible assumption) | assumption)
             have hx10 := bt_at a0 x5_1
             replace p10 := eq_true p10
             replace q10 := eq_true q10
             have p11 : 0 ≤ (x5_1 : Int) := of_decide_eq_true (by first | (with_reducible assumption) | assumption)
             have q11 : x5_1 < (a1.size : Int) := of_decide_eq_true (by first | (with_reducible assumption) | assumption)
             have hx11 := bt_at a1 x5_1
             replace p11 := eq_true p11
             replace q11 := eq_true q11
             go_wp2
             repeat (go_quiet (fail); try go_wp2)
             go_ret
             exact ⟨by first | rfl | (simp; done) | (simp [*]; done), by repeat (first | exact Drawn0.refl _ | apply Drawn0.step)⟩
         · rw [if_neg c6] at H
           exact absurd H (by simp)
       · rw [if_neg c5] at H
         exact absurd H (by simp)
   · rw [if_neg c3] at H
     have c3b0 : decide (x5_1 < (a1.size : Int)) = false := decide_eq_false c3
     clear c3
     obtain rfl := Option.some.inj H
     go_wp2
     repeat (go_quiet (fail); try go_wp2)
     go_ret
     exact ⟨by first | rfl | (simp; done) | (simp [*]; done), by repeat (first | exact Drawn0.refl _ | apply Drawn0.step)⟩
end Go.Proofs.Ytklbmdakoeoplaa.X
end
