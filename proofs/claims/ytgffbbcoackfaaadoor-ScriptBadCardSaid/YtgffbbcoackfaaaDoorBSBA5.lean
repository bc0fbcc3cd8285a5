/- What the claim SBA leans on: texts joined by bundle.py, a program of ours; the words cut down to what is used. -/
import Derived.Test.YtgffbbcoackfaaaDoorBSBA4
section
namespace Go.Proofs.YtgffbbcoackfaaaDoor.V
open Go Go.Vm
set_option linter.unusedVariables false
set_option linter.unusedSimpArgs false
theorem right20_is (c : Cf) : Ev (fun k => althingref20_Right k c) (rightB c) := Ev.at_ fun k => by
  rw [althingref20_Right_eq]
  unfold rightB inB
  cases decide (c.1 ≥ 1) <;> cases decide (c.1 ≤ 3) <;> cases decide (c.2.1 ≥ 1) <;> cases decide (c.2.1 ≤ 4) <;> cases decide (c.2.2.1 ≥ 1) <;> cases decide (c.2.2.1 ≤ 4) <;> cases decide (c.2.2.2.1 ≥ 0) <;> cases decide (c.2.2.2.1 ≤ 1048576) <;> cases decide (c.2.2.2.2 ≥ 1) <;> rfl
theorem c24_is (ls : List ByteArray) (hls : ∀ l ∈ ls, l.size ≤ 4000000) (hn : ls.length ≤ 1000000) (h1 : 1 ≤ ls.length) (bad : Int) (h0 : 0 ≤ bad) (hb : bad ≤ 1) (b2 c : Cf) :
    Ev (fun k => althingref21_Parse.c24 k ls bad [] 1 b2 c) (c, (ls.tail.foldl stepSt (bad, [])).2, (ls.tail.foldl stepSt (bad, [])).1) := by
  have := Ev.fold ls (fun k st i => althingref21_Parse.c24 k ls st.1 st.2 i b2 c) stepSt (fun st => (c, st.2, st.1)) (fun i st => st.2.length ≤ i ∧ 0 ≤ st.1 ∧ st.1 ≤ (i : Int) + 1) ?_ ?_ (ls.length - 1) 1 (bad, []) (by omega) ⟨by simp, h0, by show bad ≤ ((1 : Nat) : Int) + 1; omega⟩
  · rw [List.drop_one] at this
    exact this
  · intro st h
    exact Ev.step (fun k => althingref21_Parse.c24_eq k _ _ _ _ _ _) (Ev.bif_ff (lt_ff (Nat.lt_irrefl _)) (Ev.some _))
  · rintro i ⟨bd, out⟩ hi ⟨g1, g2, g3⟩
    simp only at g1 g2 g3
    have hstep := ref_Step_is ls[i] (hls _ (List.getElem_mem hi))
    unfold stepSt
    cases hb : (stepF ls[i]).2 with
    | true =>
      refine ⟨⟨by rw [cond_true, List.length_append]; show out.length + 1 ≤ i + 1; omega, g2, by show bd ≤ ((i + 1 : Nat) : Int) + 1; omega⟩, fun r hr => ?_⟩
      refine Ev.step (fun k => althingref21_Parse.c24_eq k _ _ _ _ _ _) (Ev.bif_tt (lt_tt hi) (Ev.bif_tt (inI_tt hi) ?_))
      rw [getD_at hi]
      refine Ev.bind hstep ?_
      rw [hb, wrap_at (by omega)]
      exact Ev.bif_tt rfl (Ev.bif_tt (lt32 (by show out.length + 1 < 4294967296; omega)) hr)
    | false =>
      refine ⟨⟨by show out.length ≤ i + 1; omega, by show 0 ≤ bd + 1; omega, by show bd + 1 ≤ ((i + 1 : Nat) : Int) + 1; omega⟩, fun r hr => ?_⟩
      refine Ev.step (fun k => althingref21_Parse.c24_eq k _ _ _ _ _ _) (Ev.bif_tt (lt_tt hi) (Ev.bif_tt (inI_tt hi) ?_))
      rw [getD_at hi]
      refine Ev.bind hstep ?_
      rw [hb, wrap_at (by omega)]
      refine Ev.bif_ff rfl ?_
      rw [wrap_id (by omega) (by omega)]
      exact hr
def numSt (acc : List Int) (w : ByteArray) : List Int := bif (numOfB w).2 then acc ++ [(numOfB w).1] else acc
theorem numSt_len : ∀ (ws : List ByteArray) (acc : List Int), (ws.foldl numSt acc).length ≤ acc.length + ws.length ∧ ((ws.foldl numSt acc).length = acc.length + ws.length → (∀ w ∈ ws, (numOfB w).2 = true) ∧ ws.foldl numSt acc = acc ++ ws.map fun w => (numOfB w).1)
  | [], acc => ⟨by simp, fun _ => ⟨fun w h => (by cases h), by simp⟩⟩
  | w :: ws, acc => by
    rw [List.foldl_cons]
    obtain ⟨h1, h2⟩ := numSt_len ws (numSt acc w)
    unfold numSt at h1 h2 ⊢
    cases hn : (numOfB w).2 with
    | true =>
      rw [hn] at h1 h2
      simp only [cond_true, List.length_append, List.length_cons, List.length_nil] at h1 h2 ⊢
      refine ⟨by omega, fun h => ?_⟩
      obtain ⟨h3, h4⟩ := h2 (by omega)
      refine ⟨fun x hx => ?_, by rw [h4]; simp⟩
      rcases List.mem_cons.1 hx with rfl | hx
      · exact hn
      · exact h3 x hx
    | false =>
      rw [hn] at h1 h2
      simp only [cond_false, List.length_cons] at h1 h2 ⊢
      exact ⟨by omega, fun h => by omega⟩
theorem numSt_all : ∀ (ws : List ByteArray) (acc : List Int), (∀ w ∈ ws, (numOfB w).2 = true) → ws.foldl numSt acc = acc ++ ws.map fun w => (numOfB w).1
  | [], acc, _ => by simp
  | w :: ws, acc, h => by
    rw [List.foldl_cons]
    unfold numSt
    rw [h w (by simp), cond_true]
    have := numSt_all ws (acc ++ [(numOfB w).1]) (fun x hx => h x (by simp [hx]))
    unfold numSt at this
    rw [this]; simp
theorem ref_Parse_is (s : ByteArray) : Ev (fun k => althingref21_Parse k s) (parseF s) := by
  refine Ev.congr (althingref21_Parse_eq · s) ?_
  unfold parseF
  cases hb : decide ((s.size : Int) > 32768) with
  | true => exact Ev.bif_tt rfl (Ev.some _)
  | false =>
    have hs : s.size ≤ 32768 := by have := of_decide_eq_false hb; omega
    refine Ev.bif_ff rfl (Ev.bind (a := lines s) (ref_split_is s (by omega) 10) ?_)
    have hlen : (lines s).length ≤ s.size + 1 := split_len 10 s
    have hmem : ∀ l ∈ lines s, l.size ≤ 4000000 := fun l hl => by have := split_mem (c := 10) (s := s) hl; omega
    have hmem2 : ∀ l ∈ lines s, l.size ≤ 32768 := fun l hl => by have := split_mem (c := 10) (s := s) hl; omega
    obtain ⟨w, l, hw⟩ := lines_cons s
    have e : (lines s).getD (Int.toNat 0) (⟨#[]⟩ : ByteArray) = w := by rw [hw]; rfl
    have e' : (lines s).headD (⟨#[]⟩ : ByteArray) = w := by rw [hw]; rfl
    rw [e']
    have hwm : w ∈ lines s := by rw [hw]; simp
    refine Ev.bif_tt (inI_tt (i := 0) (by rw [hw]; simp)) ?_
    show Ev (fun k => (althingref21_Parts k ((lines s).getD (Int.toNat 0) (⟨#[]⟩ : ByteArray))).bind _) _
    rw [e]
    refine Ev.bind (ref_Parts_is w (hmem w hwm)) ?_
    have hwl : (words w).length ≤ 32769 := by have := split_len 32 w; have := hmem2 w hwm; show ((splitL 32 w.data.toList).map ofL).length ≤ 32769; omega
    have hwm2 : ∀ p ∈ words w, p.size ≤ 4000000 := fun p hp => Nat.le_trans (split_mem (c := 32) hp) (hmem w hwm)
    have htail : ∀ c bad, 0 ≤ bad → bad ≤ 1 → Ev (fun k => althingref21_Parse.c24 k (lines s) bad [] 1 (Ty.zero Ty_cluster_Config) c) (c, ((lines s).tail.foldl stepSt (bad, [])).2, ((lines s).tail.foldl stepSt (bad, [])).1) := fun c bad h0 h1 =>
      c24_is _ hmem (by omega) (by rw [hw]; simp) bad h0 h1 _ c
    have hbad : ∀ c, Ev (fun k => althingref21_Parse.c19 k (lines s) 0 false (Ty.zero Ty_cluster_Config) usualC c) (usualC, ((lines s).tail.foldl stepSt (1, [])).2, ((lines s).tail.foldl stepSt (1, [])).1) := fun c =>
      Ev.step (fun k => althingref21_Parse.c19_eq k _ _ _ _ _ _) (Ev.bif_tt rfl (htail _ _ (by decide) (by decide)))
    generalize hres : ((firstF w).1, ((lines s).tail.foldl stepSt ((firstF w).2, [])).2, ((lines s).tail.foldl stepSt ((firstF w).2, [])).1) = res
    refine Ev.fold0 (words w) (fun k acc i => althingref21_Parse.c10 k (lines s) 0 (words w) acc i (Ty.zero Ty_cluster_Config) usualC usualC) numSt (fun _ => res) (fun i acc => acc.length ≤ i ∧ acc = ((words w).take i).foldl numSt []) [] ⟨Nat.le_refl _, rfl⟩ ?_ ?_
    · rintro acc ⟨ha, hacc⟩
      rw [List.take_length] at hacc
      refine Ev.step (fun k => althingref21_Parse.c10_eq k _ _ _ _ _ _ _ _) (Ev.bif_ff (lt_ff (Nat.lt_irrefl _)) ?_)
      by_cases h5 : (words w).length = 5
      · refine Ev.bif_tt (by rw [beq_iff_eq]; omega) ?_
        by_cases ha5 : acc.length = 5
        · refine Ev.bif_tt (by rw [beq_iff_eq]; omega) ?_
          have hall := (numSt_len (words w) []).2 (by rw [← hacc]; simp only [List.length_nil]; omega)
          rw [← hacc] at hall
          have hacc2 := hall.2
          match hws : words w, h5 with
          | [w0, w1, w2, w3, w4], _ =>
            rw [hws] at hacc2 hall
            have hfit : takeT (partsOf w) [] five = (true, [.inl (numOfB w0).1, .inl (numOfB w1).1, .inl (numOfB w2).1, .inl (numOfB w3).1, .inl (numOfB w4).1]) := by
              have hp : partsOf w = [some (.inl (numOfB w0).1), some (.inl (numOfB w1).1), some (.inl (numOfB w2).1), some (.inl (numOfB w3).1), some (.inl (numOfB w4).1)] := by
                unfold partsOf
                rw [hws]
                simp only [List.map_cons, List.map_nil]
                rw [partOf_num (hall.1 w0 (by simp)), partOf_num (hall.1 w1 (by simp)), partOf_num (hall.1 w2 (by simp)), partOf_num (hall.1 w3 (by simp)), partOf_num (hall.1 w4 (by simp))]
              rw [hp]; rfl
            have hff : firstF w = bif rightB ((numOfB w0).1, (numOfB w1).1, (numOfB w2).1, (numOfB w3).1, (numOfB w4).1) then (((numOfB w0).1, (numOfB w1).1, (numOfB w2).1, (numOfB w3).1, (numOfB w4).1), 0) else (usualC, 1) := by
              unfold firstF
              rw [hfit]; rfl
            rw [hff] at hres
            have hacc3 : acc = [(numOfB w0).1, (numOfB w1).1, (numOfB w2).1, (numOfB w3).1, (numOfB w4).1] := hacc2
            subst hacc3
            refine Ev.step (fun k => althingref21_Parse.c17_eq k _ _ _ _ _ _) ?_
            refine Ev.bif_tt rfl (Ev.bif_tt rfl (Ev.bif_tt rfl (Ev.bif_tt rfl (Ev.bif_tt rfl (Ev.bif_tt rfl (Ev.bif_tt rfl (Ev.bif_tt rfl (Ev.bif_tt rfl (Ev.bif_tt rfl ?_)))))))))
            refine Ev.bind (right20_is ((numOfB w0).1, (numOfB w1).1, (numOfB w2).1, (numOfB w3).1, (numOfB w4).1)) ?_
            cases hr : rightB ((numOfB w0).1, (numOfB w1).1, (numOfB w2).1, (numOfB w3).1, (numOfB w4).1) with
            | true =>
              rw [hr] at hres
              rw [← hres]
              exact Ev.step (fun k => althingref21_Parse.c19_eq k _ _ _ _ _ _) (Ev.bif_ff rfl (htail _ _ (by decide) (by decide)))
            | false =>
              rw [hr] at hres
              rw [← hres]
              exact hbad _
        · have hff : firstF w = (usualC, 1) := by
            unfold firstF
            cases hz : (takeT (partsOf w) [] five).1 with
            | false => rfl
            | true =>
              exfalso
              have hfit : fitB five (partsOf w) = true := by
                rw [← hz]
                exact (takeT_fit (by decide) (fun i hi => by
                  exfalso
                  match i with
                  | 0 | 1 | 2 | 3 | 4 => cases hi
                  | i + 5 => simp [five] at hi)).symm
              unfold partsOf at hfit
              match hws : words w, h5 with
              | [w0, w1, w2, w3, w4], _ =>
                rw [hws] at hfit
                rw [fitB_all five [w0, w1, w2, w3, w4] rfl] at hfit
                simp [five, okK] at hfit
                apply ha5
                rw [hacc, hws, numSt_all _ _ (fun x hx => by
                  simp at hx
                  rcases hx with rfl | rfl | rfl | rfl | rfl
                  · exact hfit.1
                  · exact hfit.2.1
                  · exact hfit.2.2.1
                  · exact hfit.2.2.2.1
                  · exact hfit.2.2.2.2)]
                rfl
          rw [hff] at hres
          rw [← hres]
          exact Ev.bif_ff (by rw [beq_eq_false_iff_ne]; omega) (hbad _)
      · have hff : firstF w = (usualC, 1) := by
          unfold firstF
          cases hz : (takeT (partsOf w) [] five).1 with
          | false => rfl
          | true =>
            exfalso
            have hfit : fitB five (partsOf w) = true := by
              rw [← hz]
              exact (takeT_fit (by decide) (fun i hi => by
                exfalso
                match i with
                | 0 | 1 | 2 | 3 | 4 => cases hi
                | i + 5 => simp [five] at hi)).symm
            have := fitB_len _ _ hfit
            unfold partsOf at this
            rw [List.length_map] at this
            exact h5 this
        rw [hff] at hres
        rw [← hres]
        exact Ev.bif_ff (by rw [beq_eq_false_iff_ne]; omega) (hbad _)
    · rintro i acc hi ⟨ha, hacc⟩
      refine ⟨⟨?_, ?_⟩, fun r hr => ?_⟩
      · unfold numSt
        cases (numOfB (words w)[i]).2 with
        | true => rw [cond_true, List.length_append]; show acc.length + 1 ≤ i + 1; omega
        | false => show acc.length ≤ i + 1; omega
      · rw [foldl_take _ _ _ _ hi, ← hacc]
      · refine Ev.step (fun k => althingref21_Parse.c10_eq k _ _ _ _ _ _ _ _) (Ev.bif_tt (lt_tt hi) (Ev.bif_tt (inI_tt hi) ?_))
        rw [getD_at hi]
        refine Ev.bind (ref_Number_is _) ?_
        rw [wrap_at (by omega)]
        unfold numSt at hr
        cases hn : (numOfB (words w)[i]).2 with
        | true =>
          rw [hn] at hr
          exact Ev.bif_tt rfl (Ev.bif_tt (lt32 (by omega)) hr)
        | false =>
          rw [hn] at hr
          exact Ev.bif_ff rfl hr
theorem few_is (l : List Sp) (hl : l.length ≤ 100000) (c : Cf) : ∀ d i, i + d = l.length → ∃ b, Ev (fun k => althinglaw20_Few.c2 k l (i : Int) c) b := by
  have hend : ∀ i : Nat, (¬ i < l.length ∨ 120 < i) → ∃ b, Ev (fun k => althinglaw20_Few.c2 k l (i : Int) c) b := fun i hi => by
    have h6 : ∃ b, Ev (fun k => althinglaw20_Few.c6 k l c) b := by
      cases hr : rightB c with
      | false => exact ⟨_, Ev.step (fun k => althinglaw20_Few.c6_eq k _ _) (Ev.bind (right20_is c) (by rw [hr]; exact Ev.some _))⟩
      | true =>
        cases h1 : decide (c.1 ≤ 2) with
        | false => exact ⟨_, Ev.step (fun k => althinglaw20_Few.c6_eq k _ _) (Ev.bind (right20_is c) (by rw [hr, h1]; exact Ev.some _))⟩
        | true =>
          cases h2 : decide (c.2.1 ≤ 2) with
          | false => exact ⟨_, Ev.step (fun k => althinglaw20_Few.c6_eq k _ _) (Ev.bind (right20_is c) (by rw [hr, h1, h2]; exact Ev.some _))⟩
          | true => exact ⟨_, Ev.step (fun k => althinglaw20_Few.c6_eq k _ _) (Ev.bind (right20_is c) (by rw [hr, h1, h2]; exact Ev.some _))⟩
    obtain ⟨b, hb⟩ := h6
    refine ⟨b, Ev.step (fun k => althinglaw20_Few.c2_eq k _ _ _) ?_⟩
    by_cases h : i < l.length
    · exact Ev.bif_tt (lt_tt h) (Ev.bif_ff (decide_eq_false (by omega)) hb)
    · exact Ev.bif_ff (lt_ff h) hb
  intro d
  induction d with
  | zero =>
    intro i h
    exact hend i (.inl (by omega))
  | succ d ih =>
    intro i h
    by_cases h120 : 120 < i
    · exact hend i (.inr h120)
    · have hi : i < l.length := by omega
      obtain ⟨b, hb⟩ := ih (i + 1) (by omega)
      rw [← wrap_at (show i ≤ 1000000000 by omega)] at hb
      have h4 : ∃ b, Ev (fun k => althinglaw20_Few.c4 k l (i : Int) c) b := by
        cases h1 : decide (((l.getD (Int.toNat (i : Int)) (Ty.zero Ty_cluster_Step)).2.2.2.2.2.2.2.1.size : Int) > 100) with
        | true => exact ⟨_, Ev.step (fun k => althinglaw20_Few.c4_eq k _ _ _) (Ev.bif_tt (inI_tt hi) (Ev.bif_tt h1 (Ev.some _)))⟩
        | false =>
          cases h2 : decide (((l.getD (Int.toNat (i : Int)) (Ty.zero Ty_cluster_Step)).2.2.2.2.2.2.2.2.size : Int) > 100) with
          | true => exact ⟨_, Ev.step (fun k => althinglaw20_Few.c4_eq k _ _ _) (Ev.bif_tt (inI_tt hi) (Ev.bif_ff h1 (Ev.bif_tt (inI_tt hi) (Ev.bif_tt h2 (Ev.some _)))))⟩
          | false => exact ⟨b, Ev.step (fun k => althinglaw20_Few.c4_eq k _ _ _) (Ev.bif_tt (inI_tt hi) (Ev.bif_ff h1 (Ev.bif_tt (inI_tt hi) (Ev.bif_ff h2 hb))))⟩
      obtain ⟨b, hb⟩ := h4
      exact ⟨b, Ev.step (fun k => althinglaw20_Few.c2_eq k _ _ _) (Ev.bif_tt (lt_tt hi) (Ev.bif_tt (decide_eq_true (by omega)) hb))⟩
theorem parseF_len (s : ByteArray) : (parseF s).2.1.length ≤ s.size + 1 := by
  unfold parseF
  cases decide ((s.size : Int) > 32768) with
  | true => exact Nat.zero_le _
  | false =>
    have h : ∀ (ls : List ByteArray) (st : Int × List Sp), (ls.foldl stepSt st).2.length ≤ st.2.length + ls.length := by
      intro ls
      induction ls with
      | nil => intro st; exact Nat.le_refl _
      | cons l ls ih =>
        intro st
        rw [List.foldl_cons]
        refine Nat.le_trans (ih _) ?_
        unfold stepSt
        cases (stepF l).2 with
        | true => simp only [cond_true, List.length_append, List.length_cons, List.length_nil]; omega
        | false => simp only [cond_false, List.length_cons]; omega
    have := h (lines s).tail ((firstF ((lines s).headD ⟨#[]⟩)).2, [])
    have hl : (lines s).length ≤ s.size + 1 := split_len 10 s
    rw [List.length_tail] at this
    simp only [List.length_nil] at this
    show ((lines s).tail.foldl stepSt ((firstF ((lines s).headD ⟨#[]⟩)).2, [])).2.length ≤ s.size + 1
    omega
theorem light_is (s : ByteArray) : ∃ b, Ev (fun k => althinglaw21_Light k s) b ∧ (b = true → s.size ≤ 1500) := by
  cases h1 : decide ((s.size : Int) > 1500) with
  | true => exact ⟨false, Ev.congr (althinglaw21_Light_eq · s) (Ev.bif_tt h1 (Ev.some _)), fun e => by cases e⟩
  | false =>
    have hs : s.size ≤ 1500 := by have := of_decide_eq_false h1; omega
    cases h2 : decide (((s.data.toList.count 10 : Nat) : Int) > 60) with
    | true => exact ⟨false, Ev.congr (althinglaw21_Light_eq · s) (Ev.bif_ff h1 (Ev.bind (Ev.some _) (Ev.bif_tt h2 (Ev.some _)))), fun e => by cases e⟩
    | false =>
      have hl := parseF_len s
      obtain ⟨b, hb⟩ := few_is (parseF s).2.1 (by omega) (parseF s).1 (parseF s).2.1.length 0 (by omega)
      refine ⟨b, Ev.congr (althinglaw21_Light_eq · s) (Ev.bif_ff h1 (Ev.bind (Ev.some _) (Ev.bif_ff h2 (Ev.step (fun k => althinglaw21_Light.c3_eq k _) (Ev.bind (ref_Parse_is s) (Ev.ret (Ev.congr (fun k => althinglaw20_Few_eq k _ _) hb))))))), fun _ => hs⟩
end Go.Proofs.YtgffbbcoackfaaaDoor.V
end
section
namespace Go.Proofs.YtgffbbcoackfaaaDoor.V
open Go Go.Vm
set_option linter.unusedVariables false
set_option linter.unusedSimpArgs false
theorem firstF_right (l : ByteArray) : rightB (firstF l).1 = true ∧ 0 ≤ (firstF l).2 ∧ (firstF l).2 ≤ 1 := by
  unfold firstF
  cases h : (takeT (partsOf l) [] five).1 && rightB (cfOf (takeT (partsOf l) [] five).2) with
  | true =>
    rw [Bool.and_eq_true] at h
    exact ⟨h.2, by show (0 : Int) ≤ 0; decide, by show (0 : Int) ≤ 1; decide⟩
  | false => exact ⟨by show rightB usualC = true; decide, by show (0 : Int) ≤ 1; decide, by show (1 : Int) ≤ 1; decide⟩
theorem fold_count : ∀ (ls : List ByteArray) (st : Int × List Sp), ((ls.foldl stepSt st).2.length : Int) + (ls.foldl stepSt st).1 = st.2.length + st.1 + ls.length
  | [], st => by simp
  | l :: ls, st => by
    rw [List.foldl_cons, fold_count ls]
    unfold stepSt
    cases (stepF l).2 with
    | true => simp only [cond_true, List.length_append, List.length_cons, List.length_nil]; omega
    | false => simp only [cond_false, List.length_cons]; omega
theorem pieces_count (c : UInt8) : ∀ l : List UInt8, (pieces c l).2.length = l.count c
  | [] => rfl
  | b :: l => by
    rw [pieces_step, List.count_cons, ← pieces_count c l]
    cases b == c <;> simp
end Go.Proofs.YtgffbbcoackfaaaDoor.V
end
section
namespace Go.Proofs.YtgffbbcoackfaaaDoor.V
open Go Go.Vm
set_option linter.unusedVariables false
set_option linter.unusedSimpArgs false
theorem pieces_app (c : UInt8) : ∀ (p rest : List UInt8), c ∉ p → pieces c (p ++ c :: rest) = (p, splitL c rest)
  | [], rest, _ => by
    rw [List.nil_append, pieces_step, beq_self_eq_true]; rfl
  | b :: p, rest, h => by
    have hb : (b == c) = false := beq_eq_false_iff_ne.2 fun e => h (by rw [e]; simp)
    rw [List.cons_append, pieces_step, hb, pieces_app c p rest (fun hp => h (by simp [hp]))]
    rfl
theorem pieces_none (c : UInt8) : ∀ (p : List UInt8), c ∉ p → pieces c p = (p, [])
  | [], _ => rfl
  | b :: p, h => by
    have hb : (b == c) = false := beq_eq_false_iff_ne.2 fun e => h (by rw [e]; simp)
    rw [pieces_step, hb, pieces_none c p (fun hp => h (by simp [hp]))]
    rfl
theorem join_cons (c : UInt8) (p q : List UInt8) (r : List (List UInt8)) : Lib.join (p :: q :: r) [c] = p ++ c :: Lib.join (q :: r) [c] := by
  simp [Lib.join, List.intercalate]
theorem join_single (c : UInt8) (p : List UInt8) : Lib.join [p] [c] = p := Lib.join_one p [c]
theorem split_join (c : UInt8) : ∀ (ps : List (List UInt8)), ps ≠ [] → (∀ p ∈ ps, c ∉ p) → splitL c (Lib.join ps [c]) = ps
  | [], h, _ => absurd rfl h
  | [p], _, h => by
    rw [join_single]
    unfold splitL
    rw [pieces_none c p (h p (by simp))]
  | p :: q :: r, _, h => by
    rw [join_cons]
    have ih := split_join c (q :: r) (by simp) (fun x hx => h x (by simp [hx]))
    unfold splitL
    rw [pieces_app c p _ (h p (by simp)), ih]
theorem join_len (c : UInt8) : ∀ (ps : List (List UInt8)), ps ≠ [] → (Lib.join ps [c]).length + 1 = (ps.map fun p => p.length + 1).sum
  | [], h => absurd rfl h
  | [p], _ => by rw [join_single]; simp
  | p :: q :: r, _ => by
    have ih := join_len c (q :: r) (by simp)
    rw [join_cons, List.length_append, List.length_cons, List.map_cons, List.sum_cons]
    omega
theorem pieces_out (c : UInt8) : ∀ l : List UInt8, c ∉ (pieces c l).1 ∧ ∀ p ∈ (pieces c l).2, c ∉ p
  | [] => ⟨by simp [pieces], fun p h => (by cases h)⟩
  | b :: l => by
    obtain ⟨h1, h2⟩ := pieces_out c l
    rw [pieces_step]
    cases hb : b == c with
    | true =>
      refine ⟨by simp, fun p hp => ?_⟩
      rcases List.mem_cons.1 hp with rfl | hp
      · exact h1
      · exact h2 p hp
    | false =>
      refine ⟨fun h => ?_, h2⟩
      rcases List.mem_cons.1 h with h | h
      · rw [h, beq_self_eq_true] at hb; cases hb
      · exact h1 h
theorem splitL_out {c : UInt8} {l p : List UInt8} (h : p ∈ splitL c l) : c ∉ p := by
  rcases List.mem_cons.1 h with rfl | h
  · exact (pieces_out c l).1
  · exact (pieces_out c l).2 p h
theorem pieces_sum (c : UInt8) : ∀ l : List UInt8, (pieces c l).1.length + 1 + ((pieces c l).2.map fun p => p.length + 1).sum = l.length + 1
  | [] => rfl
  | b :: l => by
    have ih := pieces_sum c l
    rw [pieces_step]
    cases b == c with
    | true => simp only [cond_true, List.length_nil, List.map_cons, List.sum_cons, List.length_cons]; omega
    | false => simp only [cond_false, List.length_cons]; omega
theorem splitL_sum (c : UInt8) (l : List UInt8) : ((splitL c l).map fun p => p.length + 1).sum = l.length + 1 := by
  unfold splitL
  rw [List.map_cons, List.sum_cons]
  exact pieces_sum c l
theorem fold_shift : ∀ (ls : List ByteArray) (b : Int) (o : List Sp), ls.foldl stepSt (b + 1, o) = ((ls.foldl stepSt (b, o)).1 + 1, (ls.foldl stepSt (b, o)).2)
  | [], b, o => rfl
  | l :: ls, b, o => by
    rw [List.foldl_cons, List.foldl_cons]
    unfold stepSt
    cases (stepF l).2 with
    | true =>
      have := fold_shift ls b (o ++ [(stepF l).1])
      unfold stepSt at this
      exact this
    | false =>
      have := fold_shift ls (b + 1) o
      unfold stepSt at this
      exact this
theorem fold_ge : ∀ (ls : List ByteArray) (st : Int × List Sp), st.1 ≤ (ls.foldl stepSt st).1
  | [], st => Int.le_refl _
  | l :: ls, st => by
    rw [List.foldl_cons]
    refine Int.le_trans ?_ (fold_ge ls _)
    unfold stepSt
    cases (stepF l).2 with
    | true => exact Int.le_refl _
    | false => show st.1 ≤ st.1 + 1; omega
theorem beq_cf (x : Cf) : Ty.beq Ty_cluster_Config x x = true := by
  show ((x.1 == x.1) && ((x.2.1 == x.2.1) && ((x.2.2.1 == x.2.2.1) && ((x.2.2.2.1 == x.2.2.2.1) && (x.2.2.2.2 == x.2.2.2.2))))) = true
  simp
theorem beq_sp (x : Sp) : Ty.beq Ty_cluster_Step x x = true := by
  show ((x.1 == x.1) && ((x.2.1 == x.2.1) && ((x.2.2.1 == x.2.2.1) && ((x.2.2.2.1 == x.2.2.2.1) && ((x.2.2.2.2.1 == x.2.2.2.2.1) && ((x.2.2.2.2.2.1 == x.2.2.2.2.2.1) && ((x.2.2.2.2.2.2.1 == x.2.2.2.2.2.2.1) && (decide (x.2.2.2.2.2.2.2.1 = x.2.2.2.2.2.2.2.1) && decide (x.2.2.2.2.2.2.2.2 = x.2.2.2.2.2.2.2.2))))))))) = true
  simp
theorem c14_is (x : List Sp) (hx : x.length ≤ 100000) : ∀ d i, i + d = x.length → Ev (fun k => althinglaw21_ScriptBad.c14 k x x (x.length : Int) (i : Int)) true
  | 0, i, h => by
    refine Ev.step (fun k => althinglaw21_ScriptBad.c14_eq k _ _ _ _) (Ev.bif_ff (lt_ff (by omega)) awake_ret)
  | d + 1, i, h => by
    have hi : i < x.length := by omega
    refine Ev.step (fun k => althinglaw21_ScriptBad.c14_eq k _ _ _ _) (Ev.bif_tt (lt_tt hi) (Ev.bif_tt (inI_tt hi) (Ev.bif_tt (inI_tt hi) (Ev.bif_ff ?_ ?_))))
    · rw [beq_sp]; rfl
    · rw [wrap_at (by omega)]
      exact c14_is x hx d (i + 1) (by omega)
theorem parse_more (s line : ByteArray) (hs : s.size ≤ 1500) (hl : line.size ≤ 100) (hc : (10 : UInt8) ∉ line.data.toList) (hbad : (stepF line).2 = false) (k : Nat) (hk1 : 1 ≤ k) (hk : k ≤ (lines s).length) :
    ∃ more : ByteArray, strings_Join.f ((lines s).take k ++ [line] ++ (lines s).drop k) ⟨#[10]⟩ = some more ∧ parseF more = ((parseF s).1, (parseF s).2.1, (parseF s).2.2 + 1) := by
  have hL : lines s = (splitL 10 s.data.toList).map ofL := rfl
  have hmapL : (lines s).map (·.data.toList) = splitL 10 s.data.toList := by
    rw [hL, List.map_map]
    exact List.map_id' _
  generalize hps : ((splitL 10 s.data.toList).take k ++ [line.data.toList] ++ (splitL 10 s.data.toList).drop k) = ps
  have hpsne : ps ≠ [] := by rw [← hps]; simp
  have hmap : ((lines s).take k ++ [line] ++ (lines s).drop k).map (·.data.toList) = ps := by
    rw [List.map_append, List.map_append, List.map_take, List.map_drop, hmapL, ← hps]; rfl
  have hout : ∀ p ∈ ps, (10 : UInt8) ∉ p := fun p hp => by
    rw [← hps] at hp
    rcases List.mem_append.1 hp with hp | hp
    · rcases List.mem_append.1 hp with hp | hp
      · exact splitL_out (List.mem_of_mem_take hp)
      · rw [List.mem_singleton.1 hp]; exact hc
    · exact splitL_out (List.mem_of_mem_drop hp)
  have hjl : (Lib.join ps [10]).length = s.data.toList.length + line.data.toList.length + 1 := by
    have h1 := join_len 10 ps hpsne
    have h2 := splitL_sum 10 s.data.toList
    rw [← hps, List.map_append, List.map_append, List.sum_append, List.sum_append, List.map_take, List.map_drop] at h1
    have h3 : ((List.map (fun p => p.length + 1) (splitL 10 s.data.toList)).take k).sum + ((List.map (fun p => p.length + 1) (splitL 10 s.data.toList)).drop k).sum = s.data.toList.length + 1 := by
      rw [← List.sum_append, List.take_append_drop]; exact h2
    rw [hps] at h1
    simp only [List.map_cons, List.map_nil, List.sum_cons, List.sum_nil] at h1
    omega
  have hs' := hs
  have hl' := hl
  rw [size_list] at hs' hl'
  have hlenL : (lines s).length ≤ s.size + 1 := split_len 10 s
  refine ⟨ofL (Lib.join ps [10]), ?_, ?_⟩
  · unfold strings_Join.f
    rw [hmap, show (⟨#[10]⟩ : ByteArray).data.toList = [10] from rfl, Nat.ble_eq_true_of_le (by
      rw [List.length_append, List.length_append, List.length_take, List.length_drop]
      show _ + 1 + _ ≤ 4000000
      omega), Nat.ble_eq_true_of_le (by rw [hjl]; omega)]
    rfl
  · have hmsz : (ofL (Lib.join ps [10])).size = (Lib.join ps [10]).length := by simp [ofL, ByteArray.size]
    have hlines : lines (ofL (Lib.join ps [10])) = (lines s).take k ++ [line] ++ (lines s).drop k := by
      show (splitL 10 (Lib.join ps [10]).toArray.toList).map ofL = _
      rw [List.toList_toArray, split_join 10 ps hpsne hout, ← hps, List.map_append, List.map_append, List.map_take, List.map_drop]
      rfl
    obtain ⟨w, l, hw⟩ := lines_cons s
    obtain ⟨j, rfl⟩ : ∃ j, k = j + 1 := ⟨k - 1, by omega⟩
    unfold parseF
    rw [decide_eq_false (by rw [hmsz]; omega : ¬ ((ofL (Lib.join ps [10])).size : Int) > 32768), decide_eq_false (by omega : ¬ (s.size : Int) > 32768), hlines, hw]
    simp only [cond_false, List.take_succ_cons, List.drop_succ_cons, List.cons_append, List.headD_cons, List.tail_cons]
    rw [List.foldl_append, List.foldl_append]
    have hfold : ∀ b0, (l.drop j).foldl stepSt ([line].foldl stepSt ((l.take j).foldl stepSt (b0, []))) = ((l.foldl stepSt (b0, [])).1 + 1, (l.foldl stepSt (b0, [])).2) := fun b0 => by
      have hsplit : l.foldl stepSt (b0, []) = (l.drop j).foldl stepSt ((l.take j).foldl stepSt (b0, [])) := by rw [← List.foldl_append, List.take_append_drop]
      rw [hsplit]
      generalize (l.take j).foldl stepSt (b0, []) = st
      have : [line].foldl stepSt st = (st.1 + 1, st.2) := by
        show stepSt st line = _
        unfold stepSt
        rw [hbad]; rfl
      rw [this]
      exact fold_shift (l.drop j) st.1 st.2
    rw [hfold]
theorem ScriptBad_is (s line : ByteArray) (at_ : Int) (h0 : 0 ≤ at_) (h255 : at_ ≤ 255) : Ev (fun k => althinglaw21_ScriptBad k s line at_) true := by
  obtain ⟨b, hb, hsz⟩ := light_is s
  refine Ev.congr (althinglaw21_ScriptBad_eq · s line at_) (Ev.bind hb ?_)
  cases b with
  | false => exact Ev.bif_tt rfl awake_ret
  | true =>
    have hs := hsz rfl
    refine Ev.bif_ff rfl ?_
    cases h1 : decide ((line.size : Int) > 100) with
    | true => exact Ev.bif_tt rfl awake_ret
    | false =>
      have hl : line.size ≤ 100 := by have := of_decide_eq_false h1; omega
      refine Ev.bif_ff rfl (Ev.bind (a := line.data.toList.contains 10) (Ev.some _) ?_)
      cases h2 : line.data.toList.contains 10 with
      | true => exact Ev.bif_tt rfl awake_ret
      | false =>
        have hc : (10 : UInt8) ∉ line.data.toList := by simpa using h2
        refine Ev.bif_ff rfl (Ev.step (fun k => althinglaw21_ScriptBad.c3_eq k _ _ _) (Ev.bind (ref_Step_is line (by omega)) ?_))
        cases h3 : (stepF line).2 with
        | true => exact Ev.bif_tt rfl awake_ret
        | false =>
          refine Ev.bif_ff rfl ?_
          rw [split_is 10 (by omega)]
          refine Ev.bind (a := lines s) (Ev.some _) ?_
          obtain ⟨w, l, hw⟩ := lines_cons s
          have hlen : (lines s).length ≤ s.size + 1 := split_len 10 s
          have hpos : 1 ≤ (lines s).length := by rw [hw]; simp
          obtain ⟨n, rfl⟩ : ∃ n : Nat, at_ = (n : Int) := ⟨at_.toNat, by omega⟩
          have hmod : n % (lines s).length < (lines s).length := Nat.mod_lt _ (by omega)
          have hk : IntKind.wrap .i64 (1 + Int.tmod (IntKind.wrap .i64 (n : Int)) ((lines s).length : Int)) = ((1 + n % (lines s).length : Nat) : Int) := by
            rw [wrap_id (x := (n : Int)) (by omega) (by omega), Int.tmod_eq_emod_of_nonneg (by omega), wrap_id (by omega) (by omega)]
            omega
          simp only [hk]
          have hk1 : 1 ≤ 1 + n % (lines s).length := by omega
          have hk2 : 1 + n % (lines s).length ≤ (lines s).length := by omega
          generalize 1 + n % (lines s).length = k at hk1 hk2 ⊢
          have e1 : sliceL (lines s) 0 (k : Int) = (lines s).take k := by
            unfold sliceL
            rw [Int.toNat_natCast]; rfl
          have e2 : sliceL (lines s) (k : Int) ((lines s).length : Int) = (lines s).drop k := by
            unfold sliceL
            rw [Int.toNat_natCast, Int.toNat_natCast, List.take_length]
          obtain ⟨more, hj, hp⟩ := parse_more s line hs hl hc h3 k hk1 hk2
          have hps := parseF_len s
          refine Ev.bif_tt (by rw [bne_iff_ne]; omega) (Ev.bif_tt ?_ ?_)
          · rw [decide_eq_true (by omega : (0 : Int) ≤ (k : Int)), decide_eq_true (by omega : (k : Int) ≤ ((lines s).length : Int))]; rfl
          · rw [e1, e2]
            refine Ev.bif_tt (lt32 (by rw [List.length_take]; omega)) (Ev.bif_tt (lt32 (by rw [List.length_take]; omega)) (Ev.bif_tt ?_ (Ev.bif_tt (lt32 (by
              rw [List.length_append, List.length_take, List.length_drop]
              show _ + 1 + _ < 4294967296
              omega)) ?_)))
            · rw [decide_eq_true (by omega : (0 : Int) ≤ (k : Int)), decide_eq_true (by omega : (k : Int) ≤ ((lines s).length : Int)), decide_eq_true (Int.le_refl _)]; rfl
            · rw [hj]
              refine Ev.bind (a := more) (Ev.some _) (Ev.bind (script_Parse_is s) (Ev.bind (script_Parse_is more) ?_))
              rw [hp]
              have hb0 : 0 ≤ (parseF s).2.2 ∧ (parseF s).2.2 ≤ 100000 := by
                have hcnt := fold_count (lines s).tail ((firstF ((lines s).headD ⟨#[]⟩)).2, [])
                have hr := firstF_right ((lines s).headD ⟨#[]⟩)
                have hpf : parseF s = ((firstF ((lines s).headD ⟨#[]⟩)).1, ((lines s).tail.foldl stepSt ((firstF ((lines s).headD ⟨#[]⟩)).2, [])).2, ((lines s).tail.foldl stepSt ((firstF ((lines s).headD ⟨#[]⟩)).2, [])).1) := by
                  unfold parseF
                  rw [decide_eq_false (by omega : ¬ (s.size : Int) > 32768)]
                  rfl
                have hge := fold_ge (lines s).tail ((firstF ((lines s).headD ⟨#[]⟩)).2, [])
                rw [hpf]
                simp only [List.length_nil, List.length_tail] at hcnt hge ⊢
                omega
              refine Ev.bif_ff (by rw [beq_cf]; rfl) (Ev.bif_ff (by simp) (Ev.bif_ff ?_ (c14_is _ (by omega) (parseF s).2.1.length 0 (by omega))))
              rw [wrap_id (by omega) (by omega)]
              simp
theorem pure_ScriptBad (zs : dens ([.str, .str, .int .u8].map PK.val)) (h : WfAll _ zs) : ∃ k, app _ (althinglaw21_ScriptBad k) zs = some true := by
  obtain ⟨_, _, h3, _⟩ := h
  have h3 : (IntKind.u8).min ≤ zs.2.2.1 ∧ zs.2.2.1 ≤ (IntKind.u8).max := h3
  exact (ScriptBad_is zs.1 zs.2.1 zs.2.2.1 (by have := h3.1; simpa [IntKind.min, IntKind.signed] using this) (by have := h3.2; simpa [IntKind.max, IntKind.signed, IntKind.bits] using this)).out
end Go.Proofs.YtgffbbcoackfaaaDoor.V
end
