/- KeysParts, the plain law: keys by shards. -/
import Derived.Test.YtcoohapohkbnpaaPuShards
import Derived.Test.YtcoohapohkbnpaaXFalthinglaw04KeysParts
import Derived.Test.YtcoohapohkbnpaaOpn
namespace Go.Proofs.Ytcoohapohkbnpaa.Pure
open Go.RowKit Go.Proofs.Ytcoohapohkbnpaa.Keys Go.Proofs.Ytcoohapohkbnpaa.Strs Go.Proofs.YtcoohapohkbnpaaW.PrintWords Go.Proofs.YtcoohapohkbnpaaW.PrintLast Go.Proofs.YtcoohapohkbnpaaW.PrintMore Go.Proofs.Ytcoohapohkbnpaa.X
set_option linter.unusedSimpArgs false
set_option linter.unusedVariables false
theorem rights_few {l : List ByteArray} (h : rightsB l = true) : few l := by
  rw [rightsB_iff] at h
  refine ⟨by omega, fun x hx => ?_⟩
  have := of_decide_eq_true (h.1 x hx)
  omega
theorem rights_of {l : List ByteArray} (p : ByteArray → Bool) (h : rightsB l = true) : rightsB (l.filter p) = true := by
  rw [rightsB_iff] at h ⊢
  refine ⟨fun x hx => h.1 x (List.mem_filter.1 hx).1, h.2.1.sublist (List.filter_sublist), ?_⟩
  have := List.length_filter_le p l
  omega
/-- What has been joined of the shards below c. -/
structure Upto (l : List ByteArray) (sh : Int) (c : Nat) (all : List ByteArray) : Prop where
  rises : all.Pairwise blt
  mem : ∀ x, x ∈ all ↔ x ∈ l ∧ shardN x sh < c
  few : few all
theorem parts_l0 (l : List ByteArray) (sh : Int) (hR : rightsB l = true) (h1 : 1 ≤ sh) (h4 : sh ≤ 4) : ∀ (d c : Nat) (all : List ByteArray), (c : Int) + (d : Int) = sh → Upto l sh c all → Ev (fun k => althinglaw04_KeysParts.l0 k l sh all (maskL l sh) 0 sh (c : Int)) true
  | 0, c, all, h, hU => by
    have hF := rights_few hR
    have hr := (rightsB_iff l).1 hR
    have hall : all = l := by
      refine Joined.unique (a := l) (b := []) ⟨hU.rises, fun x => ?_⟩ ⟨hr.2.1, fun x => by simp⟩
      rw [hU.mem]
      constructor
      · exact fun h => .inl h.1
      · rintro (hx | hx)
        · exact ⟨hx, by have := (shardN_range (hr.1 x hx) h1 h4).2; omega⟩
        · cases hx
    subst hall
    refine Ev.step (f := fun k => (althinglaw04_same.f k all all).bind fun t238 => (if t238 = true then ((althinglaw04_awake.f).bind fun t239 => (some t239)) else (none))) (fun k => ?_) ?_
    · simp only [althinglaw04_KeysParts.l0]
      rw [if_neg (by omega), if_pos trivial]
    · exact Ev.bind (same_is _ _ (by have := hF.1; omega) rfl) (Ev.congr (fun k => if_pos rfl) (Ev.const (by rw [awake04_is]; rfl)))
  | d + 1, c, all, h, hU => by
    have hF := rights_few hR
    have hr := (rightsB_iff l).1 hR
    have hc : c < 4 := by omega
    have hO := of_is l (c : Int) sh (by have := hF.1; omega)
    have hRf := rights_of (fun x => decide (shardE x sh = 0 ∧ shardN x sh = (c : Int))) hR
    have hFf := rights_few hRf
    have hmemf : ∀ x, x ∈ ofL l (c : Int) sh ↔ x ∈ l ∧ shardN x sh = c := fun x => by
      unfold ofL
      rw [List.mem_filter, decide_eq_true_eq]
      constructor
      · exact fun h => ⟨h.1, h.2.2⟩
      · exact fun h => ⟨h.1, shardE_ok (hr.1 x h.1) h1 h4, h.2⟩
    have hbit : (decide (((ofL l (c : Int) sh).length : Int) > 0) != ((Go.bits .and .i64 (shr .i64 (maskL l sh) (c : Int)) 1) == 1)) = false := by
      rw [mask_bit _ _ hc, tb_mask l sh hr.1 h1 h4 c hc]
      have e : decide (((ofL l (c : Int) sh).length : Int) > 0) = l.any (fun x => decide (shardN x sh = (c : Int))) := by
        rw [Bool.eq_iff_iff, decide_eq_true_eq, List.any_eq_true]
        constructor
        · intro hp
          obtain ⟨x, hx⟩ := List.exists_mem_of_length_pos (show 0 < (ofL l (c : Int) sh).length by omega)
          exact ⟨x, ((hmemf x).1 hx).1, decide_eq_true ((hmemf x).1 hx).2⟩
        · rintro ⟨x, hx, hs⟩
          have := List.length_pos_of_mem ((hmemf x).2 ⟨hx, of_decide_eq_true hs⟩)
          omega
      rw [e]; simp
    have hm : meetB all (ofL l (c : Int) sh) = false := by
      unfold meetB
      rw [List.any_eq_false]
      intro x hx hb
      have h5 := (hmemf x).1 ((inB_iff _ _).1 hb)
      have h6 := (hU.mem x).1 hx
      omega
    have hFo : few (ofL l (c : Int) sh) := hFf
    refine Ev.step (f := fun k => (keys_Of.f k l (c : Int) sh).bind fun t240 => (if ((decide ((t240.length : Int) > 0)) != ((Go.bits .and .i64 (shr .i64 (maskL l sh) (c : Int)) 1) == 1)) = true then (althinglaw04_KeysParts.j2 k l sh all (maskL l sh) 0 t240 sh (c : Int) true) else ((keys_Rights.f k t240).bind fun t243 => (althinglaw04_KeysParts.j2 k l sh all (maskL l sh) 0 t240 sh (c : Int) (!t243))))) (fun k => ?_) ?_
    · simp only [althinglaw04_KeysParts.l0]
      rw [if_pos (by omega)]
      congr 1
      all_goals (funext t; rw [if_pos (by omega)])
    refine Ev.bind hO ?_
    rw [hbit]
    refine Ev.congr (fun k => if_neg (by simp)) ?_
    refine Ev.bind (rights_is _ (by have := hFo.1; omega)) ?_
    rw [show rightsB (ofL l (c : Int) sh) = true from hRf]
    refine Ev.step (f := fun k => althinglaw04_KeysParts.l0 k l sh (joinB all (ofL l (c : Int) sh)) (maskL l sh) 0 sh ((c + 1 : Nat) : Int)) (fun k => ?_) ?_
    · simp only [althinglaw04_KeysParts.j2, Bool.not_true]
      rw [if_neg (by simp), show keys_Meet.f all (ofL l (c : Int) sh) = some (meetB all (ofL l (c : Int) sh)) from rfl, hm, Option.bind_some, if_neg (by simp), join_f (few_big hU.few) (few_big hFo), Option.bind_some, w1 c (by omega)]
    · have hj := joinB_joined all (ofL l (c : Int) sh)
      refine parts_l0 l sh hR h1 h4 d (c + 1) _ (by omega) ⟨hj.1, fun x => ?_, ?_⟩
      · rw [hj.2, hU.mem, hmemf]
        constructor
        · rintro (h | h)
          · exact ⟨h.1, by omega⟩
          · exact ⟨h.1, by omega⟩
        · rintro ⟨h, h'⟩
          by_cases e : shardN x sh = c
          · exact .inr ⟨h, e⟩
          · exact .inl ⟨h, by omega⟩
      · have hsub : ∀ x ∈ joinB all (ofL l (c : Int) sh), x ∈ l := fun x hx => by
          rcases (hj.2 x).1 hx with h | h
          · exact ((hU.mem x).1 h).1
          · exact ((hmemf x).1 h).1
        refine ⟨?_, fun x hx => hF.2 x (hsub x hx)⟩
        have := sub_len _ _ hj.1 hsub
        have := hF.1
        omega
theorem pure_KeysParts (x0 : List ByteArray) (x1 : Int) (q0 : (inAll inStr) x0) (q1 : inI64 x1) : ∃ k, X.althinglaw04_KeysParts.f k x0 x1 = some true := by
  have haw : Ev (fun k => althinglaw04_KeysParts.j0 k x0 x1 true) true := by
    refine Ev.step (f := fun _ => some true) (fun k => ?_) (Ev.const rfl)
    simp only [althinglaw04_KeysParts.j0]
    rw [if_pos trivial, awake04_is]; rfl
  refine Ev.rounds ?_
  unfold althinglaw04_KeysParts.f
  refine Ev.bind (few_is x0) ?_
  cases ha : fewB x0 with
  | false => exact Ev.congr (fun k => if_neg (by simp)) haw
  | true =>
    rw [fewB_iff] at ha
    refine Ev.congr (fun k => if_pos rfl) ?_
    refine Ev.bind (rrights_is x0 (by have := ha.1; omega) (fun x hx => by have := ha.2 x hx; omega)) ?_
    cases hr : rightsB x0 with
    | false => exact Ev.congr (fun k => if_neg (by simp)) haw
    | true =>
      refine Ev.congr (fun k => if_pos rfl) ?_
      by_cases h1 : x1 < 1
      · exact Ev.congr (fun k => if_pos h1) haw
      · refine Ev.congr (fun k => if_neg h1) ?_
        by_cases h4 : x1 > 4
        · rw [decide_eq_true h4]; exact haw
        · rw [decide_eq_false h4]
          have hok := ((rightsB_iff x0).1 hr).1
          refine Ev.step (f := fun k => (keys_Mask.f k x0 x1).bind fun bt236 => (althinglaw04_KeysParts.l0 k x0 x1 ([] : List ByteArray) bt236.1 bt236.2 x1 0)) (fun k => ?_) ?_
          · simp only [althinglaw04_KeysParts.j0]
            rw [if_neg (by simp)]
          · refine Ev.bind (mask_is x0 x1 hok (by omega) (by omega) (by have := ha.1; omega)) ?_
            obtain ⟨n, rfl⟩ : ∃ n : Nat, x1 = n := ⟨x1.toNat, by omega⟩
            exact parts_l0 x0 n hr (by omega) (by omega) n 0 [] (by omega) ⟨List.Pairwise.nil, fun x => by
              constructor
              · intro h; cases h
              · rintro ⟨h, h'⟩; have := (shardN_range (hok x h) (m := (n : Int)) (by omega) (by omega)).1; omega, by constructor <;> simp⟩
end Go.Proofs.Ytcoohapohkbnpaa.Pure
