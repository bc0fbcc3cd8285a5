/- What the claim AOW leans on: texts joined by bundle.py, a program of ours; the words cut down to what is used. -/
import Derived.Test.YtmkiodkkhfdlpaaBAOW6
section
namespace Go.Proofs.Ytmkiodkkhfdlpaa.V
open Go Go.Vm Go.Proofs.Ytmkiodkkhfdlpaa.Strs
set_option linter.unusedVariables false
set_option linter.unusedSimpArgs false
abbrev zIn : In := Ty.zero Ty_api_Instance
abbrev zDp : Dp := Ty.zero Ty_api_Deps
def sameR (a b : Rc) : Bool := Ty.beq Ty_api_Instance a.1 b.1 && ((a.2.1 == b.2.1) && (Ty.beq Ty_api_Instance a.2.2.1 b.2.2.1 && (Ty.beq Ty_api_Instance a.2.2.2.1 b.2.2.2.1 && ((a.2.2.2.2.2.1 == b.2.2.2.2.2.1) && (Ty.beq Ty_api_Deps a.2.2.2.2.2.2.1 b.2.2.2.2.2.2.1 && (Ty.beq Ty.bool a.2.2.2.2.2.2.2 b.2.2.2.2.2.2.2 && sameV a.2.2.2.2.1 b.2.2.2.2.1))))))
theorem deps_same (d : Dp) : Ty.beq Ty_api_Deps d d = true := by
  have : ∀ l : List Int, ((l.zip l).all fun p => p.1 == p.2) = true := fun l => by
    induction l with
    | nil => rfl
    | cons x l ih => simp [ih]
  exact this d
theorem sameR_refl (a : Rc) : sameR a a = true := by
  unfold sameR
  rw [inst_refl, inst_refl, inst_refl, deps_same, bool_refl, sameV_refl]
  simp
theorem wsame_ev (a b : Rc) (h : small a.2.2.2.2.1) : Ev (fun k => wire_SameRecord k a b) (sameR a b) := by
  refine Ev.congr (fun k => wire_SameRecord_eq k a b) ?_
  exact Ev.and_ fun _ => Ev.and_ fun _ => Ev.and_ fun _ => Ev.and_ fun _ => Ev.and_ fun _ => Ev.and_ fun _ => Ev.and_ fun _ => Ev.ret (csame_ev _ _ h)
theorem rsameR_ev (a b : Rc) (h : small a.2.2.2.2.1) : Ev (fun k => althingref07_Same k a b) (sameR a b) := by
  refine Ev.congr (fun k => althingref07_Same_eq k a b) ?_
  exact Ev.and_ fun _ => Ev.and_ fun _ => Ev.and_ fun _ => Ev.and_ fun _ => Ev.and_ fun _ => Ev.and_ fun _ => Ev.and_ fun _ => Ev.ret (rsame_ev _ _ h)
def sameM (a b : Ms) : Bool := (a.1 == b.1) && ((a.2.1 == b.2.1) && ((a.2.2.1 == b.2.2.1) && (Ty.beq Ty_api_Instance a.2.2.2.1 b.2.2.2.1 && sameR a.2.2.2.2 b.2.2.2.2)))
theorem sameM_refl (a : Ms) : sameM a a = true := by
  unfold sameM
  rw [inst_refl, sameR_refl]
  simp
theorem rsameM_ev (a b : Ms) (h : small a.2.2.2.2.2.2.2.2.1) : Ev (fun k => althingref07_SameMessage k a b) (sameM a b) := by
  refine Ev.congr (fun k => althingref07_SameMessage_eq k a b) ?_
  exact Ev.and_ fun _ => Ev.and_ fun _ => Ev.and_ fun _ => Ev.and_ fun _ => Ev.ret (rsameR_ev _ _ h)
def depAt (d : Dp) (i : Nat) : Bool := !decide (List.getD (α := Int) d i 0 < 0) && !decide (List.getD (α := Int) d i 0 > 1048576)
def depsV (d : Dp) : Bool := (List.range 7).all (depAt d)
theorem dright_ev (d : Dp) : Ev (fun k => deps_Right k d) (depsV d) := by
  refine Ev.congr (fun k => deps_Right_eq k d) ((Ev.allN 7 (fun k j => deps_Right.c2 k d j) (depAt d) true ?_ ?_).to (Bool.and_true _))
  · exact Ev.step (f := fun _ => some true) (fun k => by rw [deps_Right.c2_eq, decide_eq_false (by omega)]; rfl) (Ev.some _)
  · intro i hi r hr
    refine (Ev.step (f := fun k => bif decide (List.getD (α := Int) d i 0 < 0) then some false else bif decide (List.getD (α := Int) d i 0 > 1048576) then some false else deps_Right.c2 k d ((i + 1 : Nat) : Int)) (fun k => by
      rw [deps_Right.c2_eq, decide_eq_true (show (i : Int) < 7 by omega), inI_tt hi, wrap_at (by omega), Int.toNat_natCast]; rfl) (Ev.norr fun _ => Ev.norr fun _ => hr)).to ?_
    unfold depAt; rw [Bool.and_assoc]
theorem rdright_ev (d : Dp) : Ev (fun k => althingref03_Right k d) (depsV d) := by
  refine Ev.congr (fun k => althingref03_Right_eq k d) ((Ev.allN 7 (fun k j => althingref03_Right.c2 k j d) (depAt d) true ?_ ?_).to (Bool.and_true _))
  · exact Ev.step (f := fun _ => some true) (fun k => by rw [althingref03_Right.c2_eq, decide_eq_false (by omega)]; rfl) (Ev.some _)
  · intro i hi r hr
    refine (Ev.step (f := fun k => bif decide (List.getD (α := Int) d i 0 < 0) then some false else bif decide (List.getD (α := Int) d i 0 > 1048576) then some false else althingref03_Right.c2 k ((i + 1 : Nat) : Int) d) (fun k => by
      rw [althingref03_Right.c2_eq, decide_eq_true (show (i : Int) < 7 by omega), inI_tt hi, wrap_at (by omega), Int.toNat_natCast]; rfl) (Ev.norr fun _ => Ev.norr fun _ => hr)).to ?_
    unfold depAt; rw [Bool.and_assoc]
def zeroTail (r : Rc) : Bool := Ty.beq Ty_api_Instance r.2.2.2.1 zIn && ((r.2.2.2.2.2.1 == 0) && (Ty.beq Ty_api_Deps r.2.2.2.2.2.2.1 [0, 0, 0, 0, 0, 0, 0] && sameV r.2.2.2.2.1 zCm))
def fullTail (r : Rc) : Bool := rightC r.2.2.2.2.1 && (inR r.2.2.2.2.2.1 1 big40 && depsV r.2.2.2.2.2.2.1)
def rightR (r : Rc) : Bool := instV r.1 && (rbV r.2.2.1 && (rbV r.2.2.2.1 && (!lowV r.2.2.1 r.2.2.2.1 && (inR r.2.1 0 3 && (!(r.2.2.2.2.2.2.2 && !(r.2.1 == 1)) && bif r.2.1 == 0 then zeroTail r else fullTail r)))))
theorem ev_bneboth {g : Nat → Option Bool} {a v : Bool} {x y : Int} (h : Ev g v) : Ev (fun k => bif a then (bif (x != y) then Option.some false else g k) else g k) (!(a && !(x == y)) && v) := ev_notboth (b := x != y) h
theorem wright_ev (r : Rc) (h : small r.2.2.2.2.1) : Ev (fun k => wire_RightRecord k r) (rightR r) := by
  refine Ev.congr (fun k => wire_RightRecord_eq k r) ?_
  simp only [sinst_at, srb_at, wwithin_at, Option.bind_some]
  unfold rightR
  refine Ev.nand_ fun _ => Ev.nand_ fun _ => Ev.nand_ fun _ => Ev.bind (cmpb_ev r.2.2.2.1 r.2.2.1) ?_
  rw [ord_pos]
  refine Ev.norr fun _ => Ev.nand_ fun _ => ?_
  have h3 : Ev (fun k => wire_RightRecord.c3 k r) (bif r.2.1 == 0 then sameR r (r.1, (0, (r.2.2.1, (zIn, (zCm, (0, ([0, 0, 0, 0, 0, 0, 0], false))))))) else fullTail r) := by
    refine Ev.step (fun k => wire_RightRecord.c3_eq k r) ?_
    cases hz : r.2.1 == 0 with
    | true => exact Ev.ret (wsame_ev _ _ h)
    | false =>
      simp only [wwithin_at, Option.bind_some]
      exact Ev.bind (cright_ev _ h) (Ev.and_ fun _ => Ev.and_ fun _ => Ev.ret (dright_ev _))
  refine (ev_bneboth h3).to ?_
  cases hz : r.2.1 == 0 with
  | false => rfl
  | true =>
    have h1 : (r.2.1 == 1) = false := by
      rw [beq_iff_eq] at hz
      rw [hz]; rfl
    rw [h1]
    cases hk : r.2.2.2.2.2.2.2 with
    | true => rfl
    | false =>
      show (true && sameR _ _) = (true && zeroTail r)
      unfold sameR zeroTail
      rw [hk]
      show (true && (Ty.beq Ty_api_Instance r.1 r.1 && ((r.2.1 == 0) && (Ty.beq Ty_api_Instance r.2.2.1 r.2.2.1 && _)))) = _
      rw [inst_refl, inst_refl, hz]
      rfl
theorem ge1 (n : Int) (h : (n == 0) = false) : decide (n ≥ 0) = decide (n ≥ 1) := by
  rw [beq_eq_false_iff_ne] at h
  exact decide_eq_decide.2 (by omega)
theorem rright_ev' (r : Rc) (h : small r.2.2.2.2.1) : Ev (fun k => althingref07_RightRecord k r) (rightR r) := by
  refine Ev.congr (fun k => althingref07_RightRecord_eq k r) ?_
  simp only [rinst_at, rrb_at, rlow_at, Option.bind_some]
  unfold rightR
  refine Ev.nand_ fun _ => Ev.nand_ fun _ => Ev.nand_ fun _ => Ev.norr fun _ => ?_
  have h3 : Ev (fun k => althingref07_RightRecord.c3 k r) (inR r.2.1 0 3 && bif r.2.1 == 0 then zeroTail r else fullTail r) := by
    refine Ev.step (fun k => althingref07_RightRecord.c3_eq k r) ?_
    cases hz : r.2.1 == 0 with
    | true =>
      have : inR r.2.1 0 3 = true := by rw [beq_iff_eq] at hz; rw [hz]; rfl
      rw [this]
      exact Ev.and_ fun _ => Ev.and_ fun _ => Ev.and_ fun _ => Ev.ret (rsame_ev _ _ h)
    | false =>
      have : inR r.2.1 0 3 = (decide (r.2.1 ≥ 1) && decide (r.2.1 ≤ 3)) := by
        unfold inR
        rw [ge1 _ hz]
      rw [this, Bool.and_assoc]
      refine Ev.and_ fun _ => Ev.and_ fun _ => Ev.bind (rright_ev _ h) ?_
      show Ev _ (rightC r.2.2.2.2.1 && (inR r.2.2.2.2.2.1 1 big40 && depsV r.2.2.2.2.2.2.1))
      refine (Ev.and_ fun _ => Ev.and_ fun _ => Ev.and_ fun _ => Ev.ret (rdright_ev _)).to ?_
      unfold inR
      rw [Bool.and_assoc]
  refine (ev_bneboth h3).to ?_
  rw [and_swap]
def rightM (m : Ms) : Bool := inR m.1 1 8 && (inR m.2.1 0 6 && (inR m.2.2.1 0 6 && (rbV m.2.2.2.1 && rightR m.2.2.2.2)))
theorem wrightM_ev (m : Ms) (h : small m.2.2.2.2.2.2.2.2.1) : Ev (fun k => wire_RightMessage k m) (rightM m) := by
  refine Ev.congr (fun k => wire_RightMessage_eq k m) ?_
  simp only [wwithin_at, srb_at, Option.bind_some]
  exact Ev.and_ fun _ => Ev.and_ fun _ => Ev.and_ fun _ => Ev.and_ fun _ => Ev.ret (wright_ev _ h)
theorem rrightM_ev (m : Ms) (h : small m.2.2.2.2.2.2.2.2.1) : Ev (fun k => althingref07_RightMessage k m) (rightM m) := by
  refine Ev.congr (fun k => althingref07_RightMessage_eq k m) ?_
  simp only [rrb_at, Option.bind_some]
  refine (Ev.and_ fun _ => Ev.and_ fun _ => Ev.and_ fun _ => Ev.and_ fun _ => Ev.and_ fun _ => Ev.and_ fun _ => Ev.and_ fun _ => Ev.ret (rright_ev' _ h)).to ?_
  unfold rightM inR
  simp only [Bool.and_assoc]
abbrev zR (i : In) : Rc := (i, Ty.zero (Ty.pair Ty.i64 (Ty.pair Ty_api_Instance (Ty.pair Ty_api_Instance (Ty.pair Ty_api_Command (Ty.pair Ty.i64 (Ty.pair Ty_api_Deps Ty.bool)))))))
def knowStep (i : In) (s x : Rc) : Rc := bif Ty.beq Ty_api_Instance x.1 i then x else s
def knowV (l : List Rc) (i : In) : Rc := l.foldl (knowStep i) (zR i)
theorem small_zero : small zCm := ⟨Nat.zero_le _, Nat.zero_le _, fun x hx => (by cases hx), fun x hx => (by cases hx)⟩
theorem know_mem (i : In) : ∀ (l : List Rc) (s : Rc), l.foldl (knowStep i) s = s ∨ (l.foldl (knowStep i) s ∈ l ∧ (l.foldl (knowStep i) s).1 = i)
  | [], s => .inl rfl
  | x :: l, s => by
    rw [List.foldl_cons]
    rcases know_mem i l (knowStep i s x) with h | h
    · rw [h]
      unfold knowStep
      cases hb : Ty.beq Ty_api_Instance x.1 i with
      | true => exact .inr ⟨List.mem_cons_self, inst_eq hb⟩
      | false => exact .inl rfl
    · exact .inr ⟨List.mem_cons_of_mem _ h.1, h.2⟩
theorem knowV_cases (l : List Rc) (i : In) : knowV l i = zR i ∨ (knowV l i ∈ l ∧ (knowV l i).1 = i) := know_mem i l _
theorem knowV_inst (l : List Rc) (i : In) : (knowV l i).1 = i := by
  rcases knowV_cases l i with h | h
  · rw [h]
  · exact h.2
theorem knowV_small {l : List Rc} (h : fewR l) (i : In) : small (knowV l i).2.2.2.2.1 := by
  rcases knowV_cases l i with e | e
  · rw [e]; exact small_zero
  · exact h.2 _ e.1
theorem knowV_snoc (l : List Rc) (x : Rc) (i : In) : knowV (l ++ [x]) i = bif Ty.beq Ty_api_Instance x.1 i then x else knowV l i := by
  unfold knowV
  rw [List.foldl_append]
  rfl
theorem own_at (k) (r : Rc) (h : small r.2.2.2.2.1) : accept_own k r = some r := by
  rw [accept_own_eq, clone_at _ h]; rfl
theorem know_c2 (l : List Rc) (h : fewR l) (i : In) (z : Rc) : ∀ j, j ≤ l.length → Ev (fun k => accept_Know.c2 k l ((j : Int) - 1) i z) (knowV (l.take j) i)
  | 0, hj => Ev.step (f := fun _ => some (zR i)) (fun k => by rw [accept_Know.c2_eq]; rfl) (Ev.some _)
  | j + 1, hj => by
    have hl := h.1
    have hjl : j < l.length := by omega
    rw [show (((j + 1 : Nat) : Int) - 1) = (j : Int) by omega, List.take_succ_eq_append_getElem hjl, knowV_snoc]
    have hw : IntKind.wrap .i64 ((j : Int) - 1) = (j : Int) - 1 := wrap_id (by omega) (by omega)
    refine Ev.step (f := fun k => bif Ty.beq Ty_api_Instance l[j].1 i then (accept_own k l[j]).bind fun r0 => some r0 else accept_Know.c2 k l ((j : Int) - 1) i z) (fun k => by
      rw [accept_Know.c2_eq, decide_eq_true (show (j : Int) ≥ 0 by omega), inI_tt hjl, getD_at hjl, hw]; rfl) ?_
    cases hb : Ty.beq Ty_api_Instance l[j].1 i with
    | true => exact Ev.ret (Ev.at_ fun k => own_at k _ (h.2 _ (List.getElem_mem hjl)))
    | false => exact know_c2 l h i z j (by omega)
theorem know_ev (l : List Rc) (h : fewR l) (i : In) : Ev (fun k => accept_Know k l i) (knowV l i) := by
  have hl := h.1
  have := know_c2 l h i (Ty.zero Ty_api_Record) l.length (Nat.le_refl _)
  rw [List.take_length] at this
  refine Ev.congr (fun k => accept_Know_eq k l i) ?_
  rw [wrap_id (by omega) (by omega)]
  exact this
theorem rknow_ev (l : List Rc) (hl : l.length ≤ 1000000) (i : In) : Ev (fun k => althingref12_Know k l i) (knowV l i) := by
  refine Ev.congr (fun k => althingref12_Know_eq k l i) ?_
  exact Ev.fold0 l (fun k s j => althingref12_Know.c3 k l j i (Ty.zero Ty_api_Record) s) (knowStep i) id (fun _ _ => True) (zR i) trivial
    (fun s _ => Ev.step (f := fun _ => some s) (fun k => by rw [althingref12_Know.c3_eq, lt_ff (Nat.lt_irrefl _)]; rfl) (Ev.some s))
    (fun j s hj _ => ⟨trivial, fun r hr => by
      refine Ev.step (f := fun k => bif Ty.beq Ty_api_Instance l[j].1 i then althingref12_Know.c3 k l ((j + 1 : Nat) : Int) i (Ty.zero Ty_api_Record) l[j] else althingref12_Know.c3 k l ((j + 1 : Nat) : Int) i (Ty.zero Ty_api_Record) s) (fun k => by
        rw [althingref12_Know.c3_eq, lt_tt hj, inI_tt hj, getD_at hj, wrap_at (by omega)]; rfl) ?_
      unfold knowStep at hr
      cases hb : Ty.beq Ty_api_Instance l[j].1 i with
      | true => rw [hb] at hr; exact hr
      | false => rw [hb] at hr; exact hr⟩)
end Go.Proofs.Ytmkiodkkhfdlpaa.V
end
section
namespace Go.Proofs.Ytmkiodkkhfdlpaa.V
open Go Go.Vm Go.Proofs.Ytmkiodkkhfdlpaa.Strs
set_option linter.unusedVariables false
set_option linter.unusedSimpArgs false
abbrev Stp := Ty_accept_Step.den
abbrev stepZ : Stp := Ty.zero Ty_accept_Step
def keepV (s : Stp) (r : Rc) : Stp := (r, (true, s.2.2))
def tellV (s : Stp) (m : Ms) (kind : Int) (b : In) (r : Rc) : Stp := (s.1, (s.2.1, ((kind, (m.2.2.1, (m.2.1, (b, r)))), true)))
def prom (r : Rc) (b : In) : Rc := (r.1, (r.2.1, (b, r.2.2.2)))
def questionV (self : Int) (m : Ms) : Bool := rightM m && ((m.2.2.1 == self) && bif m.1 == 1 then (m.2.2.2.2.2.1 == 1) && Ty.beq Ty_api_Instance m.2.2.2.2.2.2.2.1 m.2.2.2.1 else bif m.1 == 3 then (m.2.2.2.2.2.1 == 2) && Ty.beq Ty_api_Instance m.2.2.2.2.2.2.2.1 m.2.2.2.1 else bif m.1 == 5 then m.2.2.2.2.2.1 == 3 else m.1 == 6)
theorem question_ev (self : Int) (m : Ms) (h : small m.2.2.2.2.2.2.2.2.1) : Ev (fun k => accept_question k self m) (questionV self m) := by
  refine Ev.congr (fun k => accept_question_eq k self m) (Ev.bind (wrightM_ev m h) (Ev.nand_ fun _ => Ev.bne_ fun _ => Ev.step (fun k => accept_question.c3_eq k m) ?_))
  have q1 : ∀ n k, accept_question_1 k n m = some ((m.2.2.2.2.2.1 == n) && Ty.beq Ty_api_Instance m.2.2.2.2.2.2.2.1 m.2.2.2.1) := fun n k => by rw [accept_question_1_eq, cs]
  simp only [q1, Option.bind_some]
  cases m.1 == 1 with
  | true => exact Ev.some _
  | false =>
    cases m.1 == 3 with
    | true => exact Ev.some _
    | false =>
      cases m.1 == 5 with
      | true => exact Ev.some _
      | false => exact Ev.some _
def commitV (k r : Rc) : Rc := bif lowV k.2.2.1 r.2.2.2.1 then prom r r.2.2.2.1 else prom r k.2.2.1
def preV (l : List Rc) (m : Ms) (r : Rc) : Rc :=
  let a := attrsV l r.1 r.2.2.2.2.1 r.2.2.2.2.2.1 r.2.2.2.2.2.2.1
  (r.1, (r.2.1, (r.2.2.1, (r.2.2.2.1, (r.2.2.2.2.1, (a.1, (a.2, (a.1 == m.2.2.2.2.2.2.2.2.2.1) && Ty.beq Ty_api_Deps a.2 m.2.2.2.2.2.2.2.2.2.2.1)))))))
def lastV (m : Ms) (k r : Rc) (same : Bool) : Stp × Int :=
  bif m.1 == 3 then (bif same && (k.2.1 == 2) then (tellV stepZ m 4 m.2.2.2.1 k, 0) else (tellV (keepV stepZ r) m 4 m.2.2.2.1 r, 0))
  else bif Ty.beq Ty_api_Instance k.2.2.1 m.2.2.2.1 then (tellV stepZ m 7 m.2.2.2.1 k, 0) else (tellV (keepV stepZ (prom k m.2.2.2.1)) m 7 m.2.2.2.1 (prom k m.2.2.2.1), 0)
def restV (l : List Rc) (m : Ms) (k r : Rc) (same : Bool) : Stp × Int :=
  bif m.1 == 1 then
    bif same && (k.2.1 == 1) then (tellV stepZ m 2 m.2.2.2.1 k, 0)
    else bif same && (k.2.1 == 2) then (stepZ, 9)
    else (tellV (keepV stepZ (preV l m r)) m 2 m.2.2.2.1 (preV l m r), 0)
  else lastV m k r same
def doneV (l : List Rc) (m : Ms) (k r : Rc) (same : Bool) : Stp × Int :=
  bif m.1 == 5 then (bif k.2.1 == 3 then (stepZ, 0) else (keepV stepZ (commitV k r), 0))
  else bif k.2.1 == 3 then (tellV stepZ m 5 k.2.2.2.1 k, 0)
  else bif lowV m.2.2.2.1 k.2.2.1 then (tellV stepZ m 8 k.2.2.1 (zR k.1), 0)
  else restV l m k r same
def handleV (l : List Rc) (self : Int) (m : Ms) : Stp × Int :=
  bif questionV self m then
    let k := knowV l m.2.2.2.2.1
    doneV l m k (prom m.2.2.2.2 m.2.2.2.1) (Ty.beq Ty_api_Instance k.2.2.2.1 m.2.2.2.1)
  else (stepZ, 1)
theorem keep_at (k) (s : Stp) (r : Rc) (h : small r.2.2.2.2.1) : accept_Step_keep k s r = some (keepV s r) := by rw [accept_Step_keep_eq, own_at k r h]; rfl
theorem tell_at (k) (s : Stp) (m : Ms) (n : Int) (b : In) (r : Rc) (h : small r.2.2.2.2.1) : accept_Step_tell k s m n b r = some (tellV s m n b r) := by rw [accept_Step_tell_eq, own_at k r h]; rfl
section
variable (l : List Rc) (m : Ms) (z : Stp) (kk r : Rc) (same : Bool) (hl : fewR l) (hm : small m.2.2.2.2.2.2.2.2.1) (hk : small kk.2.2.2.2.1) (hr : small r.2.2.2.2.1)
include hk in
theorem h33 (s : Stp) : Ev (fun k => accept_Handle.c33 k m z s kk) (tellV s m 7 m.2.2.2.1 kk, 0) :=
  Ev.step (f := fun _ => some (tellV s m 7 m.2.2.2.1 kk, 0)) (fun k => by rw [accept_Handle.c33_eq, tell_at _ _ _ _ _ _ hk]; rfl) (Ev.some _)
include hr in
theorem h25 : Ev (fun k => accept_Handle.c25 k m z stepZ r) (tellV (keepV stepZ r) m 2 m.2.2.2.1 r, 0) :=
  Ev.step (f := fun _ => some (tellV (keepV stepZ r) m 2 m.2.2.2.1 r, 0)) (fun k => by rw [accept_Handle.c25_eq, keep_at _ _ _ hr, Option.bind_some, tell_at _ _ _ _ _ _ hr]; rfl) (Ev.some _)
include hk in
theorem h27 : Ev (fun k => accept_Handle.c27 k m z stepZ kk) (tellV stepZ m 4 m.2.2.2.1 kk, 0) :=
  Ev.step (f := fun _ => some (tellV stepZ m 4 m.2.2.2.1 kk, 0)) (fun k => by rw [accept_Handle.c27_eq, tell_at _ _ _ _ _ _ hk]; rfl) (Ev.some _)
include hk in
theorem h19 : Ev (fun k => accept_Handle.c19 k m z stepZ kk) (tellV stepZ m 2 m.2.2.2.1 kk, 0) :=
  Ev.step (f := fun _ => some (tellV stepZ m 2 m.2.2.2.1 kk, 0)) (fun k => by rw [accept_Handle.c19_eq, tell_at _ _ _ _ _ _ hk]; rfl) (Ev.some _)
include hk hr in
theorem h28 : Ev (fun k => accept_Handle.c28 k m z stepZ kk r) (bif m.1 == 3 then (tellV (keepV stepZ r) m 4 m.2.2.2.1 r, 0) else bif Ty.beq Ty_api_Instance kk.2.2.1 m.2.2.2.1 then (tellV stepZ m 7 m.2.2.2.1 kk, 0) else (tellV (keepV stepZ (prom kk m.2.2.2.1)) m 7 m.2.2.2.1 (prom kk m.2.2.2.1), 0)) := by
  refine Ev.step (fun k => accept_Handle.c28_eq k m z stepZ kk r) ?_
  cases m.1 == 3 with
  | true => exact Ev.at_ fun k => by rw [keep_at _ _ _ hr]; show Option.bind _ _ = _; rw [tell_at _ _ _ _ _ _ hr]; rfl
  | false =>
    refine Ev.bif_ff rfl ?_
    cases Ty.beq Ty_api_Instance kk.2.2.1 m.2.2.2.1 with
    | true => exact Ev.bif_ff rfl (h33 m z kk hk stepZ)
    | false =>
      refine Ev.bif_tt rfl (Ev.bind (Ev.at_ fun k => keep_at k stepZ (prom kk m.2.2.2.1) hk) ?_)
      exact h33 m z (prom kk m.2.2.2.1) hk _
include hl hr hk in
theorem h22 (hr2 : prom m.2.2.2.2 m.2.2.2.1 = r) : Ev (fun k => accept_Handle.c22 k l same m z stepZ kk r) (bif m.1 == 1 then (tellV (keepV stepZ (preV l m r)) m 2 m.2.2.2.1 (preV l m r), 0) else lastV m kk r same) := by
  refine Ev.step (fun k => accept_Handle.c22_eq k l same m z stepZ kk r) ?_
  cases h1 : m.1 == 1 with
  | true =>
    refine Ev.bif_tt rfl (Ev.bind (attrs_ev l hl r.1 _ hr _ _) ?_)
    unfold preV
    generalize attrsV l r.1 r.2.2.2.2.1 r.2.2.2.2.2.1 r.2.2.2.2.2.2.1 = a
    have H : ∀ b : Bool, Ev (fun k => accept_Handle.c25 k m z stepZ (r.1, (r.2.1, (r.2.2.1, (r.2.2.2.1, (r.2.2.2.2.1, (a.1, (a.2, b)))))))) (tellV (keepV stepZ (r.1, (r.2.1, (r.2.2.1, (r.2.2.2.1, (r.2.2.2.2.1, (a.1, (a.2, b)))))))) m 2 m.2.2.2.1 (r.1, (r.2.1, (r.2.2.1, (r.2.2.2.1, (r.2.2.2.2.1, (a.1, (a.2, b))))))), 0) := fun b => h25 m z (r.1, (r.2.1, (r.2.2.1, (r.2.2.2.1, (r.2.2.2.2.1, (a.1, (a.2, b))))))) hr
    show Ev _ (tellV (keepV stepZ (r.1, (r.2.1, (r.2.2.1, (r.2.2.2.1, (r.2.2.2.2.1, (a.1, (a.2, (a.1 == m.2.2.2.2.2.2.2.2.2.1) && Ty.beq Ty_api_Deps a.2 m.2.2.2.2.2.2.2.2.2.2.1)))))))) m 2 m.2.2.2.1 (r.1, (r.2.1, (r.2.2.1, (r.2.2.2.1, (r.2.2.2.2.1, (a.1, (a.2, (a.1 == m.2.2.2.2.2.2.2.2.2.1) && Ty.beq Ty_api_Deps a.2 m.2.2.2.2.2.2.2.2.2.2.1))))))), (0 : Int))
    cases a.1 == m.2.2.2.2.2.2.2.2.2.1 with
    | true => exact Ev.bif_tt rfl (H _)
    | false => exact Ev.bif_ff rfl (H _)
  | false =>
    refine Ev.bif_ff rfl ?_
    have h := h28 m z kk r hk hr
    unfold lastV
    cases h3 : m.1 == 3 with
    | true =>
      rw [h3] at h
      cases same with
      | false => exact h
      | true =>
        cases h4 : kk.2.1 == 2 with
        | true => exact h27 m z kk hk
        | false => exact h
    | false =>
      rw [h3] at h
      exact h
include hl hr hk in
theorem h20 (hr2 : prom m.2.2.2.2 m.2.2.2.1 = r) : Ev (fun k => accept_Handle.c20 k l same m z stepZ kk r) (bif m.1 == 1 then (bif same && (kk.2.1 == 2) then (stepZ, 9) else (tellV (keepV stepZ (preV l m r)) m 2 m.2.2.2.1 (preV l m r), 0)) else lastV m kk r same) := by
  refine Ev.step (fun k => accept_Handle.c20_eq k l same m z stepZ kk r) ?_
  have h := h22 l m z kk r same hl hk hr hr2
  cases h1 : m.1 == 1 with
  | false => rw [h1] at h; exact h
  | true =>
    rw [h1] at h
    cases same with
    | false => exact h
    | true =>
      cases h4 : kk.2.1 == 2 with
      | false => exact h
      | true => exact Ev.some _
include hl hr hk in
theorem h9 (hr2 : prom m.2.2.2.2 m.2.2.2.1 = r) (hkeep : (m.1 == 5 && (kk.2.1 == 3)) = false) : Ev (fun k => accept_Handle.c9 k l same m z stepZ kk r) (doneV l m kk r same) := by
  refine Ev.step (fun k => accept_Handle.c9_eq k l same m z stepZ kk r) ?_
  unfold doneV
  cases h5 : m.1 == 5 with
  | true =>
    rw [h5, Bool.true_and] at hkeep
    rw [hkeep]
    refine Ev.bif_tt rfl (Ev.bind (cmpb_ev r.2.2.2.1 kk.2.2.1) ?_)
    rw [ord_pos]
    show Ev _ (keepV stepZ (bif lowP kk.2.2.1.1 kk.2.2.1.2 r.2.2.2.1.1 r.2.2.2.1.2 then _ else _), (0 : Int))
    cases lowP kk.2.2.1.1 kk.2.2.1.2 r.2.2.2.1.1 r.2.2.2.1.2 with
    | true => exact Ev.bif_tt rfl (Ev.bind (Ev.at_ fun k => keep_at k stepZ (prom r r.2.2.2.1) hr) (Ev.some _))
    | false => exact Ev.bif_ff rfl (Ev.bind (Ev.at_ fun k => keep_at k stepZ (prom r kk.2.2.1) hr) (Ev.some _))
  | false =>
    refine Ev.bif_ff rfl ?_
    cases h3 : kk.2.1 == 3 with
    | true => exact Ev.bind (Ev.at_ fun k => tell_at k stepZ m 5 _ kk hk) (Ev.some _)
    | false =>
      refine Ev.bif_ff rfl (Ev.bind (cmpb_ev m.2.2.2.1 kk.2.2.1) ?_)
      rw [ord_neg]
      unfold lowV
      cases lowP m.2.2.2.1.1 m.2.2.2.1.2 kk.2.2.1.1 kk.2.2.1.2 with
      | true => exact Ev.bif_tt rfl (Ev.bind (Ev.at_ fun k => tell_at k stepZ m 8 _ (zR kk.1) small_zero) (Ev.some _))
      | false =>
        refine Ev.bif_ff rfl ?_
        have h := h20 l m z kk r same hl hk hr hr2
        unfold restV
        cases h1 : m.1 == 1 with
        | false => rw [h1] at h; exact h
        | true =>
          rw [h1] at h
          cases same with
          | false => exact h
          | true =>
            cases h4 : kk.2.1 == 1 with
            | false => exact h
            | true => exact h19 m z kk hk
end
theorem handle_ev (l : List Rc) (hl : fewR l) (self : Int) (m : Ms) (hm : small m.2.2.2.2.2.2.2.2.1) : Ev (fun k => accept_Handle k l self m) (handleV l self m) := by
  refine Ev.congr (fun k => accept_Handle_eq k l self m) (Ev.bind (question_ev self m hm) ?_)
  unfold handleV
  cases questionV self m with
  | false => exact Ev.some _
  | true =>
    refine Ev.bif_ff rfl (Ev.bind (know_ev l hl _) ?_)
    have hk := knowV_small hl m.2.2.2.2.1
    generalize knowV l m.2.2.2.2.1 = kk at hk ⊢
    cases h5 : m.1 == 5 with
    | false => exact h9 l m _ kk _ _ hl hk hm rfl (by rw [h5]; rfl)
    | true =>
      cases h3 : kk.2.1 == 3 with
      | false => exact h9 l m _ kk _ _ hl hk hm rfl (by rw [h3, Bool.and_false])
      | true =>
        refine (Ev.some (stepZ, (0 : Int))).to ?_
        show _ = doneV l m kk _ _
        unfold doneV
        rw [h5, h3]; rfl
theorem nil_few : fewR [] := ⟨Nat.zero_le _, fun x hx => by cases hx⟩
abbrev awM : Ms := (6, (1, (2, ((2, 1), ((0, 4), (Ty.zero (Ty.pair Ty.i64 (Ty.pair Ty_api_Instance (Ty.pair Ty_api_Instance (Ty.pair Ty_api_Command (Ty.pair Ty.i64 (Ty.pair Ty_api_Deps Ty.bool))))))))))))
theorem aw_is : handleV [] 2 awM = (tellV (keepV stepZ (prom (zR (0, 4)) (2, 1))) awM 7 (2, 1) (prom (zR (0, 4)) (2, 1)), 0) := by kernel_rfl
theorem aw12_ev : Ev (fun k => althinglaw12_awake k) true := by
  have h := handle_ev [] nil_few 2 awM small_zero
  rw [aw_is] at h
  refine Ev.congr (fun k => althinglaw12_awake_eq k) (Ev.bind h ?_)
  exact Ev.bif_tt rfl (Ev.bif_tt rfl (Ev.bif_tt rfl (Ev.bif_tt rfl (Ev.bif_tt rfl (Ev.bif_tt rfl (Ev.some _))))))
theorem aw_then : Ev (fun k => (althinglaw12_awake k).bind fun r => some r) true := Ev.ret aw12_ev
def rightsV (l : List Rc) : Bool := l.all rightR
theorem rights_ev (l : List Rc) (h : fewR l) : Ev (fun k => althinglaw12_rights k l) (rightsV l) := by
  have hl := h.1
  refine Ev.congr (fun k => althinglaw12_rights_eq k l) ((Ev.allL l (fun k j => althinglaw12_rights.c2 k l (l.length : Int) j) rightR true ?_ ?_).to (Bool.and_true _))
  · exact Ev.step (f := fun _ => some true) (fun k => by rw [althinglaw12_rights.c2_eq, lt_ff (Nat.lt_irrefl _)]; rfl) (Ev.some _)
  · intro i hi r hr
    exact Ev.step (f := fun k => (althingref07_RightRecord k l[i]).bind fun r0 => bif !r0 then some false else althinglaw12_rights.c2 k l (l.length : Int) ((i + 1 : Nat) : Int)) (fun k => by
      rw [althinglaw12_rights.c2_eq, lt_tt hi, inI_tt hi, getD_at hi, wrap_at (by omega)]; rfl) (Ev.bind (rright_ev' _ (h.2 _ (List.getElem_mem hi))) (Ev.nand_ fun _ => hr))
theorem few12_ex (l : List Rc) (m : Ms) : ∃ q, Ev (fun k => althinglaw12_few k l m) q ∧ (q = true → l.length ≤ 20 ∧ fewR l ∧ small m.2.2.2.2.2.2.2.2.1) := by
  obtain ⟨q, hq, hp⟩ := few11_ex l
  obtain ⟨q', hq', hp'⟩ := few5_ex [m.2.2.2.2.2.2.2.2.1] (by simp)
  refine ⟨q && q', Ev.congr (fun k => althinglaw12_few_eq k l m) (Ev.bind hq (Ev.and_ fun _ => Ev.ret hq')), fun h => ?_⟩
  rw [Bool.and_eq_true] at h
  exact ⟨(hp h.1).1, (hp h.1).2, hp' h.2 _ List.mem_cons_self⟩
end Go.Proofs.Ytmkiodkkhfdlpaa.V
end
section
namespace Go.Proofs.Ytmkiodkkhfdlpaa.V
open Go Go.Vm Go.Proofs.Ytmkiodkkhfdlpaa.Strs
set_option linter.unusedVariables false
set_option linter.unusedSimpArgs false
abbrev mI (m : Ms) : In := m.2.2.2.2.1
abbrev mB (m : Ms) : In := m.2.2.2.1
abbrev mR (m : Ms) : Rc := m.2.2.2.2
abbrev kOf (l : List Rc) (m : Ms) : Rc := knowV l (mI m)
abbrev rOf (m : Ms) : Rc := prom (mR m) (mB m)
abbrev smOf (l : List Rc) (m : Ms) : Bool := Ty.beq Ty_api_Instance (kOf l m).2.2.2.1 (mB m)
inductive Hd (l : List Rc) (self : Int) (m : Ms) : Stp × Int → Prop where
  | bad (q : questionV self m = false) : Hd l self m (stepZ, 1)
  | com3 (q : questionV self m = true) (h5 : (m.1 == 5) = true) (h3 : ((kOf l m).2.1 == 3) = true) : Hd l self m (stepZ, 0)
  | com (q : questionV self m = true) (h5 : (m.1 == 5) = true) (h3 : ((kOf l m).2.1 == 3) = false) : Hd l self m (keepV stepZ (commitV (kOf l m) (rOf m)), 0)
  | told (q : questionV self m = true) (h5 : (m.1 == 5) = false) (h3 : ((kOf l m).2.1 == 3) = true) : Hd l self m (tellV stepZ m 5 (kOf l m).2.2.2.1 (kOf l m), 0)
  | nack (q : questionV self m = true) (h5 : (m.1 == 5) = false) (h3 : ((kOf l m).2.1 == 3) = false) (hl : lowV (mB m) (kOf l m).2.2.1 = true) : Hd l self m (tellV stepZ m 8 (kOf l m).2.2.1 (zR (kOf l m).1), 0)
  | pre1 (q : questionV self m = true) (h1 : (m.1 == 1) = true) (h3 : ((kOf l m).2.1 == 3) = false) (hl : lowV (mB m) (kOf l m).2.2.1 = false) (hs : (smOf l m && ((kOf l m).2.1 == 1)) = true) : Hd l self m (tellV stepZ m 2 (mB m) (kOf l m), 0)
  | pre2 (q : questionV self m = true) (h1 : (m.1 == 1) = true) (h3 : ((kOf l m).2.1 == 3) = false) (hl : lowV (mB m) (kOf l m).2.2.1 = false) : Hd l self m (stepZ, 9)
  | pre (q : questionV self m = true) (h1 : (m.1 == 1) = true) (h3 : ((kOf l m).2.1 == 3) = false) (hl : lowV (mB m) (kOf l m).2.2.1 = false) : Hd l self m (tellV (keepV stepZ (preV l m (rOf m))) m 2 (mB m) (preV l m (rOf m)), 0)
  | acc1 (q : questionV self m = true) (h1 : (m.1 == 3) = true) (h3 : ((kOf l m).2.1 == 3) = false) (hl : lowV (mB m) (kOf l m).2.2.1 = false) (hs : (smOf l m && ((kOf l m).2.1 == 2)) = true) : Hd l self m (tellV stepZ m 4 (mB m) (kOf l m), 0)
  | acc (q : questionV self m = true) (h1 : (m.1 == 3) = true) (h3 : ((kOf l m).2.1 == 3) = false) (hl : lowV (mB m) (kOf l m).2.2.1 = false) : Hd l self m (tellV (keepV stepZ (rOf m)) m 4 (mB m) (rOf m), 0)
  | prep1 (q : questionV self m = true) (h1 : (m.1 == 6) = true) (h3 : ((kOf l m).2.1 == 3) = false) (hl : lowV (mB m) (kOf l m).2.2.1 = false) (hp : Ty.beq Ty_api_Instance (kOf l m).2.2.1 (mB m) = true) : Hd l self m (tellV stepZ m 7 (mB m) (kOf l m), 0)
  | prep (q : questionV self m = true) (h1 : (m.1 == 6) = true) (h3 : ((kOf l m).2.1 == 3) = false) (hl : lowV (mB m) (kOf l m).2.2.1 = false) : Hd l self m (tellV (keepV stepZ (prom (kOf l m) (mB m))) m 7 (mB m) (prom (kOf l m) (mB m)), 0)
theorem q_kind {self : Int} {m : Ms} (q : questionV self m = true) (h1 : (m.1 == 1) = false) (h3 : (m.1 == 3) = false) (h5 : (m.1 == 5) = false) : (m.1 == 6) = true := by
  unfold questionV at q
  rw [h1, h3, h5] at q
  simp only [cond_false, Bool.and_eq_true] at q
  exact q.2.2
theorem handled (l : List Rc) (self : Int) (m : Ms) : Hd l self m (handleV l self m) := by
  unfold handleV
  cases hq : questionV self m with
  | false => exact .bad hq
  | true =>
    show Hd l self m (doneV l m (kOf l m) (rOf m) (smOf l m))
    unfold doneV
    cases h5 : m.1 == 5 with
    | true =>
      cases h3 : (kOf l m).2.1 == 3 with
      | true => exact .com3 hq h5 h3
      | false => exact .com hq h5 h3
    | false =>
      cases h3 : (kOf l m).2.1 == 3 with
      | true => exact .told hq h5 h3
      | false =>
        cases hl : lowV (mB m) (kOf l m).2.2.1 with
        | true => exact .nack hq h5 h3 hl
        | false =>
          show Hd l self m (restV l m (kOf l m) (rOf m) (smOf l m))
          unfold restV
          cases h1 : m.1 == 1 with
          | true =>
            cases hs : smOf l m && ((kOf l m).2.1 == 1) with
            | true => exact .pre1 hq h1 h3 hl hs
            | false =>
              cases hs2 : smOf l m && ((kOf l m).2.1 == 2) with
              | true => exact .pre2 hq h1 h3 hl
              | false => exact .pre hq h1 h3 hl
          | false =>
            show Hd l self m (lastV m (kOf l m) (rOf m) (smOf l m))
            unfold lastV
            cases h13 : m.1 == 3 with
            | true =>
              cases hs : smOf l m && ((kOf l m).2.1 == 2) with
              | true => exact .acc1 hq h13 h3 hl hs
              | false => exact .acc hq h13 h3 hl
            | false =>
              have h6 := q_kind hq h1 h13 h5
              cases hp : Ty.beq Ty_api_Instance (kOf l m).2.2.1 (mB m) with
              | true => exact .prep1 hq h6 h3 hl hp
              | false => exact .prep hq h6 h3 hl
theorem hd_inst {l : List Rc} {self : Int} {m : Ms} {h : Stp × Int} (H : Hd l self m h) (hn : h.1.2.1 = true) : h.1.1.1 = mI m := by
  cases H with
  | com => show (commitV (kOf l m) (rOf m)).1 = _; unfold commitV; cases lowV (kOf l m).2.2.1 (rOf m).2.2.2.1 <;> rfl
  | pre => rfl
  | acc => rfl
  | prep => exact knowV_inst l (mI m)
  | bad => cases hn
  | com3 => cases hn
  | told => cases hn
  | nack => cases hn
  | pre1 => cases hn
  | pre2 => cases hn
  | acc1 => cases hn
  | prep1 => cases hn
theorem hd_small {l : List Rc} {self : Int} {m : Ms} {h : Stp × Int} (H : Hd l self m h) (hl : fewR l) (hm : small (mR m).2.2.2.2.1) : small h.1.1.2.2.2.2.1 ∧ small h.1.2.2.1.2.2.2.2.2.2.2.2.1 := by
  have hk := knowV_small hl (mI m)
  cases H with
  | com => exact ⟨by show small (commitV (kOf l m) (rOf m)).2.2.2.2.1; unfold commitV; cases lowV (kOf l m).2.2.1 (rOf m).2.2.2.1 <;> exact hm, small_zero⟩
  | pre => exact ⟨hm, hm⟩
  | acc => exact ⟨hm, hm⟩
  | prep => exact ⟨hk, hk⟩
  | bad => exact ⟨small_zero, small_zero⟩
  | com3 => exact ⟨small_zero, small_zero⟩
  | told => exact ⟨small_zero, hk⟩
  | nack => exact ⟨small_zero, small_zero⟩
  | pre1 => exact ⟨small_zero, hk⟩
  | pre2 => exact ⟨small_zero, small_zero⟩
  | acc1 => exact ⟨small_zero, hk⟩
  | prep1 => exact ⟨small_zero, hk⟩
def moreV (l : List Rc) (s : Stp) : List Rc := bif s.2.1 then l ++ [s.1] else l
theorem more_few {l : List Rc} {s : Stp} (h20 : l.length ≤ 20) (hl : fewR l) (hs : small s.1.2.2.2.2.1) : fewR (moreV l s) ∧ (moreV l s).length ≤ 21 := by
  unfold moreV
  cases s.2.1 with
  | false => exact ⟨hl, by show l.length ≤ 21; omega⟩
  | true =>
    refine ⟨⟨by show (l ++ [s.1]).length ≤ 100; rw [List.length_append, List.length_singleton]; omega, fun x hx => ?_⟩, by show (l ++ [s.1]).length ≤ 21; rw [List.length_append, List.length_singleton]; omega⟩
    rcases List.mem_append.1 (show x ∈ l ++ [s.1] from hx) with hx | hx
    · exact hl.2 x hx
    · rw [List.mem_singleton.1 hx]; exact hs
end Go.Proofs.Ytmkiodkkhfdlpaa.V
end
section
namespace Go.Proofs.Ytmkiodkkhfdlpaa.V
open Go Go.Vm Go.Proofs.Ytmkiodkkhfdlpaa.Strs
set_option linter.unusedVariables false
set_option linter.unusedSimpArgs false
theorem low_irr (b : In) : lowV b b = false := by unfold lowV lowP; simp
theorem q_pre {self : Int} {m : Ms} (q : questionV self m = true) (h1 : (m.1 == 1) = true) : ((mR m).2.1 == 1) = true ∧ Ty.beq Ty_api_Instance (mR m).2.2.2.1 (mB m) = true := by
  unfold questionV at q
  rw [h1] at q
  simp only [cond_true, Bool.and_eq_true] at q
  exact q.2.2
theorem k13 {n : Int} (h : (n == 3) = true) : (n == 1) = false ∧ (n == 5) = false := by rw [beq_iff_eq] at h; subst h; exact ⟨rfl, rfl⟩
theorem k1 {n : Int} (h : (n == 1) = true) : (n == 3) = false ∧ (n == 5) = false ∧ (n == 2) = false := by rw [beq_iff_eq] at h; subst h; exact ⟨rfl, rfl, rfl⟩
theorem k6 {n : Int} (h : (n == 6) = true) : (n == 1) = false ∧ (n == 3) = false ∧ (n == 5) = false := by rw [beq_iff_eq] at h; subst h; exact ⟨rfl, rfl, rfl⟩
theorem k2 {n : Int} (h : (n == 2) = true) : (n == 3) = false := by rw [beq_iff_eq] at h; subst h; rfl
theorem q_acc {self : Int} {m : Ms} (q : questionV self m = true) (h1 : (m.1 == 3) = true) : ((mR m).2.1 == 2) = true ∧ Ty.beq Ty_api_Instance (mR m).2.2.2.1 (mB m) = true := by
  unfold questionV at q
  rw [(k13 h1).1, h1] at q
  simp only [cond_true, cond_false, Bool.and_eq_true] at q
  exact q.2.2
theorem q_com {self : Int} {m : Ms} (q : questionV self m = true) (h5 : (m.1 == 5) = true) : ((mR m).2.1 == 3) = true := by
  have h1 : (m.1 == 1) = false := by rw [beq_iff_eq] at h5; rw [h5]; rfl
  have h3 : (m.1 == 3) = false := by rw [beq_iff_eq] at h5; rw [h5]; rfl
  unfold questionV at q
  rw [h1, h3, h5] at q
  simp only [cond_true, cond_false, Bool.and_eq_true] at q
  exact q.2.2
theorem know_more {l : List Rc} {self : Int} {m : Ms} {s : Stp} {e : Int} (H : Hd l self m (s, e)) (hn : s.2.1 = true) : kOf (l ++ [s.1]) m = s.1 := by
  show knowV (l ++ [s.1]) (mI m) = _
  rw [knowV_snoc, show s.1.1 = mI m from hd_inst H hn, inst_refl]; rfl
theorem again {l : List Rc} {self : Int} {m : Ms} {s : Stp} (H : Hd l self m (s, 0)) (hh : handleV l self m = (s, 0)) : (handleV (moreV l s) self m).2 = 0 ∧ (handleV (moreV l s) self m).1.2.1 = false ∧ (handleV (moreV l s) self m).1.2.2.2 = s.2.2.2 ∧ (handleV (moreV l s) self m).1.2.2.1 = s.2.2.1 := by
  have old : s.2.1 = false → (handleV (moreV l s) self m).2 = 0 ∧ (handleV (moreV l s) self m).1.2.1 = false ∧ (handleV (moreV l s) self m).1.2.2.2 = s.2.2.2 ∧ (handleV (moreV l s) self m).1.2.2.1 = s.2.2.1 := fun hn => by
    unfold moreV
    rw [hn]
    show (handleV l self m).2 = 0 ∧ (handleV l self m).1.2.1 = false ∧ (handleV l self m).1.2.2.2 = s.2.2.2 ∧ (handleV l self m).1.2.2.1 = s.2.2.1
    rw [hh]
    exact ⟨rfl, hn, rfl, rfl⟩
  have new : s.2.1 = true → ∀ r, handleV (l ++ [s.1]) self m = r → r.2 = 0 ∧ r.1.2.1 = false ∧ r.1.2.2.2 = s.2.2.2 ∧ r.1.2.2.1 = s.2.2.1 → (handleV (moreV l s) self m).2 = 0 ∧ (handleV (moreV l s) self m).1.2.1 = false ∧ (handleV (moreV l s) self m).1.2.2.2 = s.2.2.2 ∧ (handleV (moreV l s) self m).1.2.2.1 = s.2.2.1 := fun hn r hr h => by
    unfold moreV
    rw [hn]
    show (handleV (l ++ [s.1]) self m).2 = 0 ∧ (handleV (l ++ [s.1]) self m).1.2.1 = false ∧ (handleV (l ++ [s.1]) self m).1.2.2.2 = s.2.2.2 ∧ (handleV (l ++ [s.1]) self m).1.2.2.1 = s.2.2.1
    rw [hr]
    exact h
  have hdone : questionV self m = true → s.2.1 = true → handleV (l ++ [s.1]) self m = doneV (l ++ [s.1]) m s.1 (rOf m) (Ty.beq Ty_api_Instance s.1.2.2.2.1 (mB m)) := fun hq hn => by
    unfold handleV
    rw [hq]
    show doneV (l ++ [s.1]) m (kOf (l ++ [s.1]) m) (rOf m) (Ty.beq Ty_api_Instance (kOf (l ++ [s.1]) m).2.2.2.1 (mB m)) = _
    rw [know_more H hn]
  cases H with
  | com3 => exact old rfl
  | told => exact old rfl
  | nack => exact old rfl
  | pre1 => exact old rfl
  | acc1 => exact old rfl
  | prep1 => exact old rfl
  | com q h5 h3 =>
    refine new rfl (stepZ, 0) ?_ ⟨rfl, rfl, rfl, rfl⟩
    rw [hdone q rfl]
    unfold doneV
    have : ((keepV stepZ (commitV (kOf l m) (rOf m))).1.2.1 == 3) = true := by
      show ((commitV (kOf l m) (rOf m)).2.1 == 3) = true
      unfold commitV
      cases lowV (kOf l m).2.2.1 (rOf m).2.2.2.1 <;> exact q_com q h5
    rw [h5, this]; rfl
  | pre q h1 h3 hl =>
    obtain ⟨hst, hb⟩ := q_pre q h1
    refine new rfl (tellV stepZ m 2 (mB m) (preV l m (rOf m)), 0) ?_ ⟨rfl, rfl, rfl, rfl⟩
    rw [hdone q rfl]
    unfold doneV restV
    have e1 : ((preV l m (rOf m)).2.1 == 3) = false := (k1 hst).1
    have e2 : lowV (mB m) (preV l m (rOf m)).2.2.1 = false := low_irr _
    have e3 : (Ty.beq Ty_api_Instance (preV l m (rOf m)).2.2.2.1 (mB m) && ((preV l m (rOf m)).2.1 == 1)) = true := by
      rw [Bool.and_eq_true]; exact ⟨hb, hst⟩
    show (bif m.1 == 5 then _ else bif (preV l m (rOf m)).2.1 == 3 then _ else bif lowV (mB m) (preV l m (rOf m)).2.2.1 then _ else bif m.1 == 1 then bif Ty.beq Ty_api_Instance (preV l m (rOf m)).2.2.2.1 (mB m) && ((preV l m (rOf m)).2.1 == 1) then _ else _ else _) = _
    rw [(k1 h1).2.1, e1, e2, h1, e3]; rfl
  | acc q h1 h3 hl =>
    obtain ⟨hst, hb⟩ := q_acc q h1
    refine new rfl (tellV stepZ m 4 (mB m) (rOf m), 0) ?_ ⟨rfl, rfl, rfl, rfl⟩
    rw [hdone q rfl]
    unfold doneV restV lastV
    have e1 : ((rOf m).2.1 == 3) = false := k2 hst
    have e2 : lowV (mB m) (rOf m).2.2.1 = false := low_irr _
    have e3 : (Ty.beq Ty_api_Instance (rOf m).2.2.2.1 (mB m) && ((rOf m).2.1 == 2)) = true := by
      rw [Bool.and_eq_true]; exact ⟨hb, hst⟩
    show (bif m.1 == 5 then _ else bif (rOf m).2.1 == 3 then _ else bif lowV (mB m) (rOf m).2.2.1 then _ else bif m.1 == 1 then _ else bif m.1 == 3 then bif Ty.beq Ty_api_Instance (rOf m).2.2.2.1 (mB m) && ((rOf m).2.1 == 2) then _ else _ else _) = _
    rw [(k13 h1).2, (k13 h1).1, e1, e2, h1, e3]; rfl
  | prep q h1 h3 hl =>
    refine new rfl (tellV stepZ m 7 (mB m) (prom (kOf l m) (mB m)), 0) ?_ ⟨rfl, rfl, rfl, rfl⟩
    rw [hdone q rfl]
    unfold doneV restV lastV
    have e2 : lowV (mB m) (mB m) = false := low_irr _
    show (bif m.1 == 5 then _ else bif (kOf l m).2.1 == 3 then _ else bif lowV (mB m) (mB m) then _ else bif m.1 == 1 then _ else bif m.1 == 3 then _ else bif Ty.beq Ty_api_Instance (mB m) (mB m) then _ else _) = _
    rw [(k6 h1).2.2, (k6 h1).2.1, (k6 h1).1, h3, e2, inst_refl]; rfl
theorem again_ev (l : List Rc) (self : Int) (m : Ms) : Ev (fun k => althinglaw12_AcceptAgain k l self m) true := by
  refine Ev.congr (fun k => althinglaw12_AcceptAgain_eq k l self m) ?_
  obtain ⟨q, hq, hp⟩ := few12_ex l m
  refine Ev.bind hq (Ev.bif_ (fun _ => aw_then) fun e1 => Ev.bif_ (fun _ => aw_then) fun e2 => ?_)
  have t1 : q = true := by cases q <;> simp_all
  obtain ⟨h20, hl, hm⟩ := hp t1
  refine Ev.bind (rights_ev l hl) (Ev.bif_ (fun _ => aw_then) fun e3 => ?_)
  have H := handled l self m
  refine Ev.step (fun k => althinglaw12_AcceptAgain.c3_eq k l self m) (Ev.bind (handle_ev l hl self m hm) ?_)
  obtain ⟨s, e, hh⟩ : ∃ s e, handleV l self m = (s, e) := ⟨_, _, rfl⟩
  rw [hh] at H ⊢
  refine Ev.bif_ (fun _ => aw_then) fun e4 => Ev.bif_tt (lt32 (by omega)) ?_
  have he : e = 0 := by
    have : (e != 0) = false := e4
    simpa using this
  subst he
  have hs := hd_small H hl hm
  have hmf := more_few h20 hl hs.1
  have ha := again H hh
  have h9 : Ev (fun k => althinglaw12_AcceptAgain.c9 k self (moreV l s) m s) true := by
    refine Ev.step (fun k => althinglaw12_AcceptAgain.c9_eq k self (moreV l s) m s) (Ev.bind (handle_ev _ hmf.1 self m hm) ?_)
    rw [ha.1, ha.2.1, ha.2.2.1, ha.2.2.2]
    exact Ev.bif_tt rfl (Ev.bif_tt rfl (Ev.bif_tt (bool_refl _) (Ev.bind (rsameM_ev _ _ hs.2) (Ev.bif_tt (sameM_refl _) aw_then))))
  unfold moreV at h9
  show Ev (fun k => bif s.2.1 then _ else _) true
  cases hn : s.2.1 with
  | true => rw [hn] at h9; exact Ev.bif_tt rfl (Ev.bif_tt (lt32 (by omega)) h9)
  | false => rw [hn] at h9; exact Ev.bif_ff rfl h9
theorem pure_AcceptAgain : ∀ zs : dens ([.sl 38 Ty_api_Record, Ty.i64, Ty_api_Message].map PK.val), WfAll _ zs → ∃ k, app _ (althinglaw12_AcceptAgain k) zs = some true := fun zs _ => (again_ev zs.1 zs.2.1 zs.2.2.1).out
end Go.Proofs.Ytmkiodkkhfdlpaa.V
end
section
namespace Go.Proofs.Ytmkiodkkhfdlpaa.V
open Go Go.Vm Go.Proofs.Ytmkiodkkhfdlpaa.Strs
set_option linter.unusedVariables false
set_option linter.unusedSimpArgs false
structure RightP (r : Rc) : Prop where
  inst : instV r.1 = true
  pr : rbV r.2.2.1 = true
  bal : rbV r.2.2.2.1 = true
  low : lowV r.2.2.1 r.2.2.2.1 = false
  st : inR r.2.1 0 3 = true
  kept : (r.2.2.2.2.2.2.2 && !(r.2.1 == 1)) = false
  tail : (bif r.2.1 == 0 then zeroTail r else fullTail r) = true
theorem rightR_iff (r : Rc) : rightR r = true ↔ RightP r := by
  unfold rightR
  simp only [Bool.and_eq_true, Bool.not_eq_true']
  exact ⟨fun ⟨a, b, c, d, e, f, g⟩ => ⟨a, b, c, d, e, f, g⟩, fun ⟨a, b, c, d, e, f, g⟩ => ⟨a, b, c, d, e, f, g⟩⟩
theorem right_zR {i : In} (h : instV i = true) : RightP (zR i) := ⟨h, rfl, rfl, rfl, rfl, rfl, by
  show zeroTail (zR i) = true
  kernel_rfl⟩
theorem know_right {l : List Rc} (h : rightsV l = true) {i : In} (hi : instV i = true) : RightP (knowV l i) := by
  rcases knowV_cases l i with e | e
  · rw [e]; exact right_zR hi
  · exact (rightR_iff _).1 (List.all_eq_true.1 h _ e.1)
theorem q_right {self : Int} {m : Ms} (q : questionV self m = true) : rightM m = true ∧ m.2.2.1 = self := by
  unfold questionV at q
  rw [Bool.and_eq_true, Bool.and_eq_true] at q
  exact ⟨q.1, by have := q.2.1; rwa [beq_iff_eq] at this⟩
structure RightMP (m : Ms) : Prop where
  kind : inR m.1 1 8 = true
  fr : inR m.2.1 0 6 = true
  to_ : inR m.2.2.1 0 6 = true
  bal : rbV m.2.2.2.1 = true
  rec_ : RightP m.2.2.2.2
theorem rightM_iff (m : Ms) : rightM m = true ↔ RightMP m := by
  unfold rightM
  simp only [Bool.and_eq_true, rightR_iff]
  exact ⟨fun ⟨a, b, c, d, e⟩ => ⟨a, b, c, d, e⟩, fun ⟨a, b, c, d, e⟩ => ⟨a, b, c, d, e⟩⟩
theorem low_of {a b c : In} (h : lowV a b = false) (h2 : lowV b c = false) : lowV a c = false := by
  unfold lowV lowP at *
  obtain ⟨a1, a2⟩ := a
  obtain ⟨b1, b2⟩ := b
  obtain ⟨c1, c2⟩ := c
  have k1 : ∀ x y z w : Int, (decide (x < z) || (x == z && decide (y < w))) = false ↔ ¬ x < z ∧ (x = z → ¬ y < w) := fun x y z w => by
    rw [Bool.or_eq_false_iff, Bool.and_eq_false_iff, decide_eq_false_iff_not, decide_eq_false_iff_not, beq_eq_false_iff_ne]
    by_cases e : x = z <;> simp [e]
  obtain ⟨p1, p2⟩ := (k1 a1 a2 b1 b2).1 h
  obtain ⟨q1, q2⟩ := (k1 b1 b2 c1 c2).1 h2
  refine (k1 a1 a2 c1 c2).2 ⟨by omega, fun e => ?_⟩
  have e1 : @Eq Int a1 b1 := by omega
  have e2 : @Eq Int b1 c1 := by omega
  have := p2 e1
  have := q2 e2
  omega
theorem low_asym' {a b : In} (h : lowV a b = true) : lowV b a = false := low_asym h
theorem inI_lt {i : Int} {n : Nat} (h : inI i n = true) : 0 ≤ i ∧ i < (n : Int) := by
  unfold inI at h
  rw [Bool.and_eq_true, decide_eq_true_iff, decide_eq_true_iff] at h
  exact h
theorem depsV_iff (d : Dp) : depsV d = true ↔ ∀ j, j < 7 → 0 ≤ List.getD (α := Int) d j 0 ∧ List.getD (α := Int) d j 0 ≤ 1048576 := by
  unfold depsV
  rw [List.all_eq_true]
  constructor
  · intro h j hj
    have := h j (List.mem_range.2 hj)
    unfold depAt at this
    simp only [Bool.and_eq_true, Bool.not_eq_true', decide_eq_false_iff_not] at this
    omega
  · intro h j hj
    have := h j (List.mem_range.1 hj)
    unfold depAt
    simp only [Bool.and_eq_true, Bool.not_eq_true', decide_eq_false_iff_not]
    omega
theorem set_getD' (d : List Int) (n : Nat) (x : Int) (j : Nat) : (d.set n x).getD j 0 = if n = j ∧ n < d.length then x else d.getD j 0 := by
  simp only [List.getD_eq_getElem?_getD, List.getElem?_set]
  by_cases h : n = j
  · subst h
    by_cases h2 : n < d.length
    · simp [h2]
    · simp [h2]
  · simp [h]
theorem with_right (d : Dp) (p q : Int) (hd : depsV d = true) (h0 : 0 ≤ q) (h1 : q ≤ 1048576) : depsV (withV d (p, q)) = true := by
  rw [depsV_iff] at hd ⊢
  intro j hj
  cases hb : inI ((p, q) : In).1 7 with
  | false => rw [show withV d (p, q) = d by unfold withV; rw [hb]; rfl]; exact hd j hj
  | true =>
    rw [show withV d (p, q) = List.set (α := Int) d (Int.toNat p) (max (List.getD (α := Int) d (Int.toNat p) 0) q) by unfold withV; rw [hb]; rfl, set_getD']
    have hj' := hd j hj
    split
    · rename_i h
      rw [h.1]
      omega
    · exact hj'
theorem step_right (s : Int × Dp) (x : Rc) (hx : RightP x) (hst : (x.2.1 == 0) = false) (h1 : inR s.1 1 big40 = true) (h2 : depsV s.2 = true) : inR (attrStep s x).1 1 big40 = true ∧ depsV (attrStep s x).2 = true := by
  have ht := hx.tail
  rw [hst] at ht
  have ht2 : fullTail x = true := ht
  unfold fullTail at ht2
  rw [Bool.and_eq_true, Bool.and_eq_true] at ht2
  have hs := ht2.2.1
  have hi := hx.inst
  unfold instV at hi
  rw [Bool.and_eq_true] at hi
  have r1 : ∀ n lo hi : Int, inR n lo hi = true ↔ lo ≤ n ∧ n ≤ hi := fun n lo hi => by unfold inR; rw [Bool.and_eq_true, decide_eq_true_iff, decide_eq_true_iff]
  refine ⟨?_, ?_⟩
  · have e : ∀ a b : Int, inR a 1 big40 = true → inR b 1 big40 = true → inR (max a (IntKind.wrap .i64 (min b 1099511627775 + 1))) 1 big40 = true := fun a b ha hb => by
      rw [r1] at ha hb ⊢
      simp only [show big40 = 1099511627776 from rfl] at ha hb ⊢
      rw [wrap_id (by omega) (by omega)]
      omega
    exact e _ _ h1 hs
  · obtain ⟨⟨p, q⟩, rest⟩ := x
    have hq := (r1 _ _ _).1 hi.2
    exact with_right s.2 p q h2 (by exact Int.le_trans (by omega) hq.1) hq.2
theorem fold_right : ∀ (al : List Rc) (s : Int × Dp), (∀ x ∈ al, RightP x ∧ (x.2.1 == 0) = false) → inR s.1 1 big40 = true → depsV s.2 = true → inR (al.foldl attrStep s).1 1 big40 = true ∧ depsV (al.foldl attrStep s).2 = true
  | [], s, _, h1, h2 => ⟨h1, h2⟩
  | x :: al, s, h, h1, h2 => by
    have hx := h x List.mem_cons_self
    have := step_right s x hx.1 hx.2 h1 h2
    exact fold_right al _ (fun y hy => h y (List.mem_cons_of_mem _ hy)) this.1 this.2
theorem against_st {l : List Rc} {i : In} {c : Cm} {x : Rc} (hx : x ∈ againstV l i c) : x ∈ l ∧ (x.2.1 == 0) = false := by
  refine ⟨(againstV_sub l i c).subset hx, ?_⟩
  unfold againstV at hx
  have h := (List.mem_filter.1 hx).2
  unfold outV at h
  simp only [Bool.not_eq_true', Bool.or_eq_false_iff, decide_eq_false_iff_not] at h
  have hn := h.2.1
  rw [beq_eq_false_iff_ne]
  intro e
  exact hn (by rw [e]; exact Int.le_refl _)
theorem attrs_right {l : List Rc} (hr : rightsV l = true) (i : In) (c : Cm) (seq : Int) (d : Dp) (h1 : inR seq 1 big40 = true) (h2 : depsV d = true) : inR (attrsV l i c seq d).1 1 big40 = true ∧ depsV (attrsV l i c seq d).2 = true :=
  fold_right _ (seq, d) (fun x hx => ⟨(rightR_iff x).1 (List.all_eq_true.1 hr x (against_st hx).1), (against_st hx).2⟩) h1 h2
theorem hd_right {l : List Rc} {self : Int} {m : Ms} {h : Stp × Int} (H : Hd l self m h) (hr : rightsV l = true) (hn : h.1.2.1 = true) :
    RightP h.1.1 ∧ ((kOf l m).2.1 == 3) = false ∧ lowV h.1.1.2.2.1 (kOf l m).2.2.1 = false := by
  cases H with
  | bad => cases hn
  | com3 => cases hn
  | told => cases hn
  | nack => cases hn
  | pre1 => cases hn
  | pre2 => cases hn
  | acc1 => cases hn
  | prep1 => cases hn
  | com q h5 h3 =>
    have hm := (rightM_iff m).1 (q_right q).1
    have hk := know_right hr (i := mI m) hm.rec_.inst
    have hst := q_com q h5
    have htail : ∀ b, (bif (prom (rOf m) b).2.1 == 0 then zeroTail (prom (rOf m) b) else fullTail (prom (rOf m) b)) = (bif (mR m).2.1 == 0 then zeroTail (mR m) else fullTail (mR m)) := fun b => rfl
    refine ⟨?_, h3, ?_⟩
    · show RightP (commitV (kOf l m) (rOf m))
      unfold commitV
      cases hl : lowV (kOf l m).2.2.1 (rOf m).2.2.2.1 with
      | true => exact ⟨hm.rec_.inst, hm.rec_.bal, hm.rec_.bal, low_irr _, hm.rec_.st, hm.rec_.kept, hm.rec_.tail⟩
      | false => exact ⟨hm.rec_.inst, hk.pr, hm.rec_.bal, hl, hm.rec_.st, hm.rec_.kept, hm.rec_.tail⟩
    · show lowV (commitV (kOf l m) (rOf m)).2.2.1 (kOf l m).2.2.1 = false
      unfold commitV
      cases hl : lowV (kOf l m).2.2.1 (rOf m).2.2.2.1 with
      | true => exact low_asym' hl
      | false => exact low_irr _
  | pre q h1 h3 hl =>
    have hm := (rightM_iff m).1 (q_right q).1
    obtain ⟨hst, hb⟩ := q_pre q h1
    have hb' : (mR m).2.2.2.1 = mB m := inst_eq hb
    have hz : ((mR m).2.1 == 0) = false := by rw [beq_iff_eq] at hst; rw [hst]; rfl
    have ht : (bif (mR m).2.1 == 0 then zeroTail (mR m) else fullTail (mR m)) = true := hm.rec_.tail
    rw [hz] at ht
    have ht2 : fullTail (mR m) = true := ht
    unfold fullTail at ht2
    rw [Bool.and_eq_true, Bool.and_eq_true] at ht2
    have ha := attrs_right hr (mI m) (mR m).2.2.2.2.1 (mR m).2.2.2.2.2.1 (mR m).2.2.2.2.2.2.1 ht2.2.1 ht2.2.2
    refine ⟨⟨hm.rec_.inst, hm.bal, hm.rec_.bal, ?_, hm.rec_.st, ?_, ?_⟩, h3, hl⟩
    · show lowV (mB m) (mR m).2.2.2.1 = false
      rw [hb']; exact low_irr _
    · show (_ && !((mR m).2.1 == 1)) = false
      rw [hst]; simp
    · show (bif (mR m).2.1 == 0 then _ else fullTail (preV l m (rOf m))) = true
      rw [hz]
      show (rightC (mR m).2.2.2.2.1 && (inR (attrsV l (mI m) (mR m).2.2.2.2.1 (mR m).2.2.2.2.2.1 (mR m).2.2.2.2.2.2.1).1 1 big40 && depsV (attrsV l (mI m) (mR m).2.2.2.2.1 (mR m).2.2.2.2.2.1 (mR m).2.2.2.2.2.2.1).2)) = true
      rw [ht2.1, ha.1, ha.2]; rfl
  | acc q h1 h3 hl =>
    have hm := (rightM_iff m).1 (q_right q).1
    obtain ⟨hst, hb⟩ := q_acc q h1
    have hb' : (mR m).2.2.2.1 = mB m := inst_eq hb
    refine ⟨⟨hm.rec_.inst, hm.bal, hm.rec_.bal, ?_, hm.rec_.st, hm.rec_.kept, hm.rec_.tail⟩, h3, hl⟩
    show lowV (mB m) (mR m).2.2.2.1 = false
    rw [hb']; exact low_irr _
  | prep q h1 h3 hl =>
    have hm := (rightM_iff m).1 (q_right q).1
    have hk := know_right hr (i := mI m) hm.rec_.inst
    exact ⟨⟨hk.inst, hm.bal, hk.bal, low_of hl hk.low, hk.st, hk.kept, hk.tail⟩, h3, hl⟩
theorem hd_told {l : List Rc} {self : Int} {m : Ms} {h : Stp × Int} (H : Hd l self m h) (hr : rightsV l = true) (hn : h.1.2.2.2 = true) :
    RightMP h.1.2.2.1 ∧ h.1.2.2.1.2.1 = self ∧ h.1.2.2.1.2.2.1 = m.2.1 ∧ h.1.2.2.1.2.2.2.2.1 = mI m := by
  have H' := H
  cases H with
  | bad => cases hn
  | com3 => cases hn
  | com => cases hn
  | pre2 => cases hn
  | told q h5 h3 =>
    obtain ⟨hm, ht⟩ := q_right q
    have hm := (rightM_iff m).1 hm
    have hk := know_right hr (i := mI m) hm.rec_.inst
    exact ⟨⟨rfl, hm.to_, hm.fr, hk.bal, hk⟩, ht, rfl, knowV_inst l _⟩
  | nack q h5 h3 hl =>
    obtain ⟨hm, ht⟩ := q_right q
    have hm := (rightM_iff m).1 hm
    have hk := know_right hr (i := mI m) hm.rec_.inst
    exact ⟨⟨rfl, hm.to_, hm.fr, hk.pr, right_zR hk.inst⟩, ht, rfl, knowV_inst l _⟩
  | pre1 q =>
    obtain ⟨hm, ht⟩ := q_right q
    have hm := (rightM_iff m).1 hm
    have hk := know_right hr (i := mI m) hm.rec_.inst
    exact ⟨⟨rfl, hm.to_, hm.fr, hm.bal, hk⟩, ht, rfl, knowV_inst l _⟩
  | pre q =>
    obtain ⟨hm, ht⟩ := q_right q
    have hm := (rightM_iff m).1 hm
    exact ⟨⟨rfl, hm.to_, hm.fr, hm.bal, (hd_right H' hr rfl).1⟩, ht, rfl, rfl⟩
  | acc1 q =>
    obtain ⟨hm, ht⟩ := q_right q
    have hm := (rightM_iff m).1 hm
    have hk := know_right hr (i := mI m) hm.rec_.inst
    exact ⟨⟨rfl, hm.to_, hm.fr, hm.bal, hk⟩, ht, rfl, knowV_inst l _⟩
  | acc q =>
    obtain ⟨hm, ht⟩ := q_right q
    have hm := (rightM_iff m).1 hm
    exact ⟨⟨rfl, hm.to_, hm.fr, hm.bal, (hd_right H' hr rfl).1⟩, ht, rfl, rfl⟩
  | prep1 q =>
    obtain ⟨hm, ht⟩ := q_right q
    have hm := (rightM_iff m).1 hm
    have hk := know_right hr (i := mI m) hm.rec_.inst
    exact ⟨⟨rfl, hm.to_, hm.fr, hm.bal, hk⟩, ht, rfl, knowV_inst l _⟩
  | prep q =>
    obtain ⟨hm, ht⟩ := q_right q
    have hm := (rightM_iff m).1 hm
    exact ⟨⟨rfl, hm.to_, hm.fr, hm.bal, (hd_right H' hr rfl).1⟩, ht, rfl, knowV_inst l _⟩
end Go.Proofs.Ytmkiodkkhfdlpaa.V
end
section
namespace Go.Proofs.Ytmkiodkkhfdlpaa.V
open Go Go.Vm Go.Proofs.Ytmkiodkkhfdlpaa.Strs
set_option linter.unusedVariables false
set_option linter.unusedSimpArgs false
def slotStep (self : Int) (n : Int) (x : Rc) : Int := bif x.1.1 == self then max n (min x.1.2 1048576) else n
def slotF (l : List Rc) (self : Int) : Int := l.foldl (slotStep self) 0
theorem slotStep_in (self n : Int) (x : Rc) (h : 0 ≤ n ∧ n ≤ 1048576) : 0 ≤ slotStep self n x ∧ slotStep self n x ≤ 1048576 := by
  obtain ⟨⟨p, q⟩, rest⟩ := x
  have e : slotStep self n (((p, q), rest) : Rc) = bif p == self then max n (min q 1048576) else n := rfl
  rw [e]
  cases p == self with
  | false => exact h
  | true => exact ⟨by show (0 : Int) ≤ max n (min q 1048576); omega, by show max n (min q 1048576) ≤ 1048576; omega⟩
theorem slotFold_in (self : Int) : ∀ (l : List Rc) (n : Int), 0 ≤ n ∧ n ≤ 1048576 → 0 ≤ l.foldl (slotStep self) n ∧ l.foldl (slotStep self) n ≤ 1048576
  | [], n, h => h
  | x :: l, n, h => slotFold_in self l _ (slotStep_in self n x h)
theorem slotF_in (l : List Rc) (self : Int) : 0 ≤ slotF l self ∧ slotF l self ≤ 1048576 := slotFold_in self l 0 (by omega)
theorem slot_ev (l : List Rc) (hl : l.length ≤ 1000) (self : Int) : Ev (fun k => index_Slot k l self) (slotF l self + 1) := by
  refine Ev.congr (fun k => index_Slot_eq k l self) ?_
  have h0 := Ev.fold0 l (fun k s j => index_Slot.c3 k self s l (l.length : Int) j) (slotStep self) (fun n => IntKind.wrap .i64 (n + 1)) (fun _ _ => True) (0 : Int) trivial
    (fun s _ => Ev.step (f := fun _ => some (IntKind.wrap .i64 (s + 1))) (fun k => by rw [index_Slot.c3_eq, lt_ff (Nat.lt_irrefl _)]; rfl) (Ev.some _))
    (fun j s hj _ => ⟨trivial, fun r hr => by
      refine Ev.step (f := fun k => bif l[j].1.1 == self then index_Slot.c3 k self (max s (min l[j].1.2 1048576)) l (l.length : Int) ((j + 1 : Nat) : Int) else index_Slot.c3 k self s l (l.length : Int) ((j + 1 : Nat) : Int)) (fun k => by
        rw [index_Slot.c3_eq, lt_tt hj, inI_tt hj, getD_at hj, wrap_at (by omega)]; rfl) ?_
      unfold slotStep at hr
      cases hb : l[j].1.1 == self with
      | true => rw [hb] at hr; exact hr
      | false => rw [hb] at hr; exact hr⟩)
  have hi := slotF_in l self
  exact h0.to (wrap_id (by show _ ≤ slotF l self + 1; omega) (by show slotF l self + 1 ≤ _; omega))
theorem mm1 {q n : Int} (h : q > n) : max (min n 1048576) (min q 1048576) = min q 1048576 := by omega
theorem mm2 {q n : Int} (h : ¬ q > n) : max (min n 1048576) (min q 1048576) = min n 1048576 := by omega
theorem mm3 {q n : Int} (h : q > n) (h0 : 0 ≤ n) : 0 ≤ q := by omega
theorem mm4 {q : Int} (n : Int) (h : q ≤ 1048576) : q ≤ max n (min q 1048576) := by omega
def rslotStep (self : Int) (n : Int) (x : Rc) : Int := bif x.1.1 == self then (bif decide (x.1.2 > n) then x.1.2 else n) else n
theorem rslot_rel (self : Int) : ∀ (l : List Rc) (n : Int), 0 ≤ n → 0 ≤ l.foldl (rslotStep self) n ∧ l.foldl (slotStep self) (min n 1048576) = min (l.foldl (rslotStep self) n) 1048576
  | [], n, h => ⟨h, rfl⟩
  | x :: l, n, h => by
    obtain ⟨⟨p, q⟩, rest⟩ := x
    have e1 : slotStep self (min n 1048576) (((p, q), rest) : Rc) = bif p == self then max (min n 1048576) (min q 1048576) else min n 1048576 := rfl
    have e2 : rslotStep self n (((p, q), rest) : Rc) = bif p == self then (bif decide (q > n) then q else n) else n := rfl
    rw [List.foldl_cons, List.foldl_cons, e1, e2]
    cases p == self with
    | false => exact rslot_rel self l n h
    | true =>
      by_cases hq : q > n
      · have := rslot_rel self l q (mm3 hq h)
        rw [decide_eq_true hq]
        show _ ∧ l.foldl (slotStep self) (max (min n 1048576) (min q 1048576)) = _
        rw [mm1 hq]
        exact this
      · have := rslot_rel self l n h
        rw [decide_eq_false hq]
        show _ ∧ l.foldl (slotStep self) (max (min n 1048576) (min q 1048576)) = _
        rw [mm2 hq]
        exact this
theorem rslot_ev (l : List Rc) (hl : l.length ≤ 1000) (self : Int) : Ev (fun k => althingref11_Slot k l self) (slotF l self + 1) := by
  refine Ev.congr (fun k => althingref11_Slot_eq k l self) ?_
  have h0 := Ev.fold0 l (fun k s j => althingref11_Slot.c3 k l self s j) (rslotStep self) (fun n => bif decide (n > 1048576) then IntKind.wrap .i64 (1048576 + 1) else IntKind.wrap .i64 (n + 1)) (fun _ _ => True) (0 : Int) trivial
    (fun s _ => by
      refine Ev.step (fun k => by rw [althingref11_Slot.c3_eq, lt_ff (Nat.lt_irrefl _)]; rfl) (?_ : Ev (fun _ => bif decide (s > 1048576) then some (IntKind.wrap .i64 (1048576 + 1)) else some (IntKind.wrap .i64 (s + 1))) _)
      cases decide (s > 1048576) <;> exact Ev.some _)
    (fun j s hj _ => ⟨trivial, fun r hr => by
      have h4 : ∀ n, n = rslotStep self s l[j] → Ev (fun k => althingref11_Slot.c4 k l self n (j : Int)) r := fun n hn => by
        subst hn
        exact Ev.step (fun k => by rw [althingref11_Slot.c4_eq, wrap_at (by omega)]) hr
      refine Ev.step (f := fun k => bif l[j].1.1 == self then (bif decide (l[j].1.2 > s) then althingref11_Slot.c6 k l self (j : Int) else althingref11_Slot.c4 k l self s (j : Int)) else althingref11_Slot.c4 k l self s (j : Int)) (fun k => by
        rw [althingref11_Slot.c3_eq, lt_tt hj, inI_tt hj, getD_at hj]; rfl) ?_
      unfold rslotStep at h4
      cases hb : l[j].1.1 == self with
      | false => rw [hb] at h4; exact h4 s rfl
      | true =>
        rw [hb] at h4
        refine Ev.bif_tt rfl ?_
        cases hc : decide (l[j].1.2 > s) with
        | false => rw [hc] at h4; exact h4 s rfl
        | true =>
          rw [hc] at h4
          exact Ev.step (f := fun k => althingref11_Slot.c4 k l self l[j].1.2 (j : Int)) (fun k => by rw [althingref11_Slot.c6_eq, inI_tt hj, getD_at hj]; rfl) (h4 _ rfl)⟩)
  refine h0.to ?_
  have hr := rslot_rel self l 0 (Int.le_refl _)
  have hs : slotF l self = min (l.foldl (rslotStep self) 0) 1048576 := hr.2
  rw [hs]
  have h1 := hr.1
  generalize l.foldl (rslotStep self) 0 = n at h1 ⊢
  by_cases hn : n > 1048576
  · rw [decide_eq_true hn, show min n 1048576 = (1048576 : Int) by omega]; rfl
  · rw [decide_eq_false hn, show min n 1048576 = n by omega]
    exact wrap_id (by omega) (by omega)
theorem slot_above (self : Int) : ∀ (l : List Rc) (n : Int), n ≤ 1048576 → n ≤ l.foldl (slotStep self) n ∧ ∀ x ∈ l, @Eq Int x.1.1 self → x.1.2 ≤ 1048576 → x.1.2 ≤ l.foldl (slotStep self) n
  | [], n, h => ⟨Int.le_refl _, fun x hx => by cases hx⟩
  | y :: l, n, h => by
    obtain ⟨⟨p, q⟩, rest⟩ := y
    have e1 : slotStep self n (((p, q), rest) : Rc) = bif p == self then max n (min q 1048576) else n := rfl
    rw [List.foldl_cons, e1]
    by_cases hp : p = self
    · have hb : (p == self) = true := beq_iff_eq.2 hp
      rw [hb]
      have ih := slot_above self l (max n (min q 1048576)) (by omega)
      refine ⟨Int.le_trans (Int.le_max_left _ _) ih.1, fun x hx hs hm => ?_⟩
      rcases List.mem_cons.1 hx with rfl | hx
      · exact Int.le_trans (mm4 n hm) ih.1
      · exact ih.2 x hx hs hm
    · have hb : (p == self) = false := beq_eq_false_iff_ne.2 hp
      rw [hb]
      have ih := slot_above self l n h
      refine ⟨ih.1, fun x hx hs hm => ?_⟩
      rcases List.mem_cons.1 hx with rfl | hx
      · exact absurd hs hp
      · exact ih.2 x hx hs hm
abbrev zRec : Rc := Ty.zero Ty_api_Record
def begunV (l : List Rc) (self : Int) (c : Cm) : Rc :=
  let a := attrsV l (self, slotF l self + 1) c 1 [0, 0, 0, 0, 0, 0, 0]
  ((self, slotF l self + 1), (1, (zIn, (zIn, (c, (a.1, (a.2, true)))))))
def beginV (l : List Rc) (self : Int) (c : Cm) : Rc × Int :=
  bif decide (self < 0) then (zRec, 1) else bif decide (self ≥ 7) then (zRec, 1) else bif !rightC c then (zRec, 1) else
  bif decide (slotF l self + 1 > 1048576) then (zRec, 2) else (begunV l self c, 0)
theorem begin_ev (l : List Rc) (hl : fewR l) (self : Int) (c : Cm) (hc : small c) : Ev (fun k => accept_Begin k l self c) (beginV l self c) := by
  refine Ev.congr (fun k => accept_Begin_eq k l self c) ?_
  have h1 := hl.1
  unfold beginV
  cases decide (self < 0) with
  | true => exact Ev.some _
  | false =>
    refine Ev.bif_ff rfl ?_
    cases decide (self ≥ 7) with
    | true => exact Ev.some _
    | false =>
      refine Ev.bif_ff rfl (Ev.bind (cright_ev c hc) ?_)
      cases rightC c with
      | false => exact Ev.some _
      | true =>
        refine Ev.bif_ff rfl (Ev.step (fun k => accept_Begin.c3_eq k l self c (Ty.zero Ty_api_Record)) (Ev.bind (slot_ev l (by omega) self) ?_))
        cases decide (slotF l self + 1 > 1048576) with
        | true => exact Ev.some _
        | false => exact Ev.bif_ff rfl (Ev.bind (attrs_ev l hl _ c hc 1 _) (Ev.bind (Ev.at_ fun k => own_at k (begunV l self c) hc) (Ev.some _)))
theorem rbegin_ev (l : List Rc) (hl : fewR l) (self : Int) (c : Cm) (hc : small c) : Ev (fun k => althingref12_Begin k l self c) (beginV l self c) := by
  refine Ev.congr (fun k => althingref12_Begin_eq k l self c) ?_
  have h1 := hl.1
  unfold beginV
  cases decide (self < 0) with
  | true => exact Ev.some _
  | false =>
    refine Ev.bif_ff rfl ?_
    rw [show decide (self > 6) = decide (self ≥ 7) from decide_eq_decide.2 (by omega)]
    cases decide (self ≥ 7) with
    | true => exact Ev.some _
    | false =>
      refine Ev.bif_ff rfl (Ev.bind (rright_ev c hc) ?_)
      cases rightC c with
      | false => exact Ev.some _
      | true =>
        refine Ev.bif_ff rfl (Ev.step (fun k => althingref12_Begin.c3_eq k l self c (Ty.zero Ty_api_Record)) (Ev.bind (rslot_ev l (by omega) self) ?_))
        cases decide (slotF l self + 1 > 1048576) with
        | true => exact Ev.some _
        | false => exact Ev.bif_ff rfl (Ev.bind (rattrs_ev l hl _ c hc 1 _) (Ev.some _))
theorem begin_small (l : List Rc) (self : Int) (c : Cm) (hc : small c) : small (beginV l self c).1.2.2.2.2.1 := by
  unfold beginV
  cases decide (self < 0) with
  | true => exact small_zero
  | false =>
    cases decide (self ≥ 7) with
    | true => exact small_zero
    | false =>
      cases rightC c with
      | false => exact small_zero
      | true =>
        cases decide (slotF l self + 1 > 1048576) with
        | true => exact small_zero
        | false => exact hc
end Go.Proofs.Ytmkiodkkhfdlpaa.V
end
section
namespace Go.Proofs.Ytmkiodkkhfdlpaa.V
open Go Go.Vm Go.Proofs.Ytmkiodkkhfdlpaa.Strs
set_option linter.unusedVariables false
set_option linter.unusedSimpArgs false
theorem with_ge (d : Dp) (p q : Int) (j : Nat) : List.getD (α := Int) d j 0 ≤ List.getD (α := Int) (withV d (p, q)) j 0 := by
  cases hb : inI ((p, q) : In).1 7 with
  | false => rw [show withV d (p, q) = d by unfold withV; rw [hb]; rfl]; exact Int.le_refl _
  | true =>
    rw [show withV d (p, q) = List.set (α := Int) d (Int.toNat p) (max (List.getD (α := Int) d (Int.toNat p) 0) q) by unfold withV; rw [hb]; rfl, set_getD']
    split
    · rename_i h; rw [h.1]; omega
    · exact Int.le_refl _
theorem with_len (d : Dp) (i : In) : List.length (α := Int) (withV d i) = List.length (α := Int) d := by
  unfold withV
  cases inI i.1 7 with
  | false => rfl
  | true => exact List.length_set (α := Int)
theorem fold_ge : ∀ (al : List Rc) (s : Int × Dp) (j : Nat), List.getD (α := Int) s.2 j 0 ≤ List.getD (α := Int) (al.foldl attrStep s).2 j 0
  | [], s, j => Int.le_refl _
  | x :: al, s, j => Int.le_trans (with_ge s.2 x.1.1 x.1.2 j) (fold_ge al (attrStep s x) j)
theorem with_has (d : Dp) (hd : List.length (α := Int) d = 7) (p q : Int) (hp : inI p 7 = true) : q ≤ List.getD (α := Int) (withV d (p, q)) p.toNat 0 := by
  have h := inI_lt hp
  rw [show withV d (p, q) = List.set (α := Int) d (Int.toNat p) (max (List.getD (α := Int) d (Int.toNat p) 0) q) by unfold withV; rw [show inI ((p, q) : In).1 7 = true from hp]; rfl, set_getD', if_pos ⟨rfl, by rw [hd]; omega⟩]
  omega
theorem fold_has : ∀ (al : List Rc) (s : Int × Dp), List.length (α := Int) s.2 = 7 → ∀ x ∈ al, inI x.1.1 7 = true → x.1.2 ≤ List.getD (α := Int) (al.foldl attrStep s).2 (Int.toNat x.1.1) 0
  | [], s, hs, x, hx, _ => by cases hx
  | y :: al, s, hs, x, hx, hr => by
    rcases List.mem_cons.1 hx with rfl | hx
    · exact Int.le_trans (with_has s.2 hs x.1.1 x.1.2 hr) (fold_ge al (attrStep s x) _)
    · exact fold_has al (attrStep s y) ((with_len _ _).trans hs) x hx hr
theorem known_at : ∀ (l : List Rc) (j : Nat) (hj : j < l.length), (l.drop (j + 1)).any (sameI l[j]) = false → l[j] ∈ knownV l
  | [], j, hj, _ => by simp at hj
  | y :: l, 0, hj, h => by
    have h' : l.any (sameI y) = false := h
    unfold knownV
    rw [if_neg (by rw [h']; simp)]
    exact List.mem_cons_self
  | y :: l, j + 1, hj, h => by
    have ih := known_at l j (by simpa using hj) (by simpa using h)
    unfold knownV
    split
    · exact ih
    · exact List.mem_cons_of_mem _ ih
theorem attrs_has {l : List Rc} {i : In} {c : Cm} {seq : Int} {d : Dp} (hd : List.length (α := Int) d = 7) {j : Nat} (hj : j < l.length) (hlast : (l.drop (j + 1)).any (sameI l[j]) = false) (hi : Ty.beq Ty_api_Instance l[j].1 i = false)
    (hst : inR l[j].2.1 0 3 = true) (hn : (l[j].2.1 == 0) = false) (hint : interV l[j].2.2.2.2.1 c = true) (hr : inI l[j].1.1 7 = true) : l[j].1.2 ≤ List.getD (α := Int) (attrsV l i c seq d).2 (Int.toNat l[j].1.1) 0 := by
  refine fold_has _ (seq, d) hd _ (List.mem_filter.2 ⟨known_at l j hj hlast, ?_⟩) hr
  have h0 : decide (l[j].2.1 ≤ 0) = false := by
    have e : ∀ n : Int, inR n 0 3 = true → (n == 0) = false → decide (n ≤ 0) = false := fun n h1 h2 => by
      unfold inR at h1
      rw [Bool.and_eq_true, decide_eq_true_iff, decide_eq_true_iff] at h1
      rw [beq_eq_false_iff_ne] at h2
      exact decide_eq_false (by omega)
    exact e _ hst hn
  unfold outV
  rw [hi, h0, hint]; rfl
theorem right_rep {r : Rc} (h : RightP r) : inI r.1.1 7 = true := by
  have hi := h.inst
  unfold instV at hi
  rw [Bool.and_eq_true] at hi
  have e : ∀ n : Int, inR n 0 6 = true → inI n 7 = true := fun n h => by
    unfold inR at h
    rw [Bool.and_eq_true, decide_eq_true_iff, decide_eq_true_iff] at h
    unfold inI
    rw [Bool.and_eq_true, decide_eq_true_iff, decide_eq_true_iff]
    omega
  exact e _ hi.1
theorem beq_sameI (x y : Rc) : Ty.beq Ty_api_Instance x.1 y.1 = sameI y x := rfl
end Go.Proofs.Ytmkiodkkhfdlpaa.V
end
section
namespace Go.Proofs.Ytmkiodkkhfdlpaa.V
open Go Go.Vm Go.Proofs.Ytmkiodkkhfdlpaa.Strs
set_option linter.unusedVariables false
set_option linter.unusedSimpArgs false
theorem begin_cases (l : List Rc) (self : Int) (c : Cm) : (beginV l self c = (zRec, 1) ∨ beginV l self c = (zRec, 2)) ∨ (beginV l self c = (begunV l self c, 0) ∧ 0 ≤ self ∧ self ≤ 6 ∧ rightC c = true ∧ slotF l self + 1 ≤ 1048576) := by
  unfold beginV
  cases h1 : decide (self < 0) with
  | true => exact .inl (.inl rfl)
  | false =>
    cases h2 : decide (self ≥ 7) with
    | true => exact .inl (.inl rfl)
    | false =>
      cases h3 : rightC c with
      | false => exact .inl (.inl rfl)
      | true =>
        cases h4 : decide (slotF l self + 1 > 1048576) with
        | true => exact .inl (.inr rfl)
        | false =>
          rw [decide_eq_false_iff_not] at h1 h2 h4
          exact .inr ⟨rfl, by omega, by omega, rfl, by omega⟩
section
variable (l : List Rc) (h20 : l.length ≤ 20) (hl : fewR l) (hr : rightsV l = true) (self : Int) (c : Cm) (hc : small c) (hs0 : 0 ≤ self) (hs6 : self ≤ 6) (hrc : rightC c = true) (hsl : slotF l self + 1 ≤ 1048576)
include hr hs0 hs6 hrc hsl in
theorem begun_right : RightP (begunV l self c) := by
  have ha := attrs_right hr (self, slotF l self + 1) c 1 [0, 0, 0, 0, 0, 0, 0] rfl (by kernel_rfl)
  have hsf := slotF_in l self
  refine ⟨?_, rfl, rfl, rfl, rfl, rfl, ?_⟩
  · show (inR self 0 6 && inR (slotF l self + 1) 1 1048576) = true
    unfold inR
    rw [decide_eq_true (show self ≥ 0 by omega), decide_eq_true (show self ≤ 6 by omega), decide_eq_true (show slotF l self + 1 ≥ 1 by omega), decide_eq_true hsl]; rfl
  · show (rightC c && (inR (attrsV l (self, slotF l self + 1) c 1 [0, 0, 0, 0, 0, 0, 0]).1 1 big40 && depsV (attrsV l (self, slotF l self + 1) c 1 [0, 0, 0, 0, 0, 0, 0]).2)) = true
    rw [hrc, ha.1, ha.2]; rfl
include h20 hl hr hc hs0 hs6 hrc hsl in
theorem own_c7 : ∀ d j, j + d = l.length → Ev (fun k => althinglaw12_AcceptOwn.c7 k l self l (l.length : Int) (j : Int) c (begunV l self c)) true
  | 0, j, hj => by
    obtain rfl : j = l.length := by omega
    refine Ev.step (f := fun k => bif (begunV l self c).1.1 == self then bif (begunV l self c).2.2.2.2.2.2.2 then bif (begunV l self c).2.1 == 1 then (wire_RightRecord k (begunV l self c)).bind fun r0 => bif r0 then (althinglaw12_awake k).bind fun r1 => some r1 else some false else some false else some false else some false) (fun k => by rw [althinglaw12_AcceptOwn.c7_eq, lt_ff (Nat.lt_irrefl _)]; rfl) ?_
    refine Ev.bif_tt (by show (self == self) = true; simp) (Ev.bif_tt rfl (Ev.bif_tt rfl (Ev.bind (wright_ev _ hc) (Ev.bif_tt ((rightR_iff _).2 (begun_right l hr self c hs0 hs6 hrc hsl)) aw_then))))
  | d + 1, j, hj => by
    have hjl : j < l.length := by omega
    have ho := (rightR_iff _).1 (List.all_eq_true.1 hr _ (List.getElem_mem hjl))
    have hso := hl.2 _ (List.getElem_mem hjl)
    have next := own_c7 d (j + 1) (by omega)
    have hne : Ty.beq Ty_api_Instance l[j].1 (begunV l self c).1 = false := by
      cases hb : Ty.beq Ty_api_Instance l[j].1 (begunV l self c).1 with
      | false => rfl
      | true =>
        exfalso
        have e := inst_eq hb
        have h1 : @Eq Int l[j].1.1 self := congrArg Prod.fst e
        have h2 : @Eq Int l[j].1.2 (slotF l self + 1) := congrArg Prod.snd e
        have h3 := (slot_above self l 0 (by omega)).2 _ (List.getElem_mem hjl) h1 (by rw [h2]; exact hsl)
        rw [h2] at h3
        have h4 : slotF l self + 1 ≤ slotF l self := h3
        omega
    have hsl2 : (sliceL l ((j + 1 : Nat) : Int) (l.length : Int)) = l.drop (j + 1) := slice_at l j hjl
    refine Ev.step (f := fun k => althinglaw12_AcceptOwn.c13 k l self true l (l.length : Int) (j : Int) (l.drop (j + 1)) ((l.drop (j + 1)).length : Int) 0 c (begunV l self c) l[j]) (fun k => ?_) ?_
    · rw [althinglaw12_AcceptOwn.c7_eq, lt_tt hjl, inI_tt hjl, getD_at hjl, hne, wrap_at (by omega), hsl2, decide_eq_true (show (0 : Int) ≤ ((j + 1 : Nat) : Int) by omega), decide_eq_true (show ((j + 1 : Nat) : Int) ≤ (l.length : Int) by omega), decide_eq_true (Int.le_refl _)]; rfl
    · have hlen : (l.drop (j + 1)).length ≤ 20 := by rw [List.length_drop]; omega
      have hend : Ev (fun k => althinglaw12_AcceptOwn.c13 k l self (!(l.drop (j + 1)).any (sameI l[j])) l (l.length : Int) (j : Int) (l.drop (j + 1)) ((l.drop (j + 1)).length : Int) ((l.drop (j + 1)).length : Int) c (begunV l self c) l[j]) true := by
        refine Ev.step (f := fun k => bif !(l.drop (j + 1)).any (sameI l[j]) then bif l[j].2.1 != 0 then (althingref05_Interfere k l[j].2.2.2.2.1 c).bind fun r0 => bif r0 then bif inI l[j].1.1 7 then bif decide (List.getD (α := Int) (begunV l self c).2.2.2.2.2.2.1 (Int.toNat l[j].1.1) 0 < l[j].1.2) then some false else althinglaw12_AcceptOwn.c7 k l self l (l.length : Int) ((j + 1 : Nat) : Int) c (begunV l self c) else none else althinglaw12_AcceptOwn.c7 k l self l (l.length : Int) ((j + 1 : Nat) : Int) c (begunV l self c) else althinglaw12_AcceptOwn.c7 k l self l (l.length : Int) ((j + 1 : Nat) : Int) c (begunV l self c) else althinglaw12_AcceptOwn.c7 k l self l (l.length : Int) ((j + 1 : Nat) : Int) c (begunV l self c)) (fun k => by
          rw [althinglaw12_AcceptOwn.c13_eq, lt_ff (Nat.lt_irrefl _), wrap_at (i := j) (by omega)]; rfl) ?_
        cases hlast : (l.drop (j + 1)).any (sameI l[j]) with
        | true => exact Ev.bif_ff rfl next
        | false =>
          refine Ev.bif_tt rfl ?_
          cases hn : l[j].2.1 == 0 with
          | true => exact Ev.bif_ff (by unfold bne; rw [hn]; rfl) next
          | false =>
            refine Ev.bif_tt (by unfold bne; rw [hn]; rfl) (Ev.bind (rinter_ev _ _ hso hc) ?_)
            cases hint : interV l[j].2.2.2.2.1 c with
            | false => exact Ev.bif_ff rfl next
            | true =>
              refine Ev.bif_tt rfl (Ev.bif_tt (right_rep ho) (Ev.bif_ff ?_ next))
              have := attrs_has (l := l) (i := (begunV l self c).1) (c := c) (seq := 1) (d := [0, 0, 0, 0, 0, 0, 0]) rfl hjl hlast hne ho.st hn hint (right_rep ho)
              exact decide_eq_false (Int.not_lt.2 this)
      have hloop : ∀ d' i fl, i + d' = (l.drop (j + 1)).length → fl = !((l.drop (j + 1)).take i).any (sameI l[j]) → Ev (fun k => althinglaw12_AcceptOwn.c13 k l self fl l (l.length : Int) (j : Int) (l.drop (j + 1)) ((l.drop (j + 1)).length : Int) (i : Int) c (begunV l self c) l[j]) true := by
        intro d'
        induction d' with
        | zero =>
          intro i fl hi hf
          obtain rfl : i = (l.drop (j + 1)).length := by omega
          rw [List.take_length] at hf
          rw [hf]
          exact hend
        | succ d' ih =>
          intro i fl hi hf
          have hil : i < (l.drop (j + 1)).length := by omega
          have hnx := ih (i + 1) (!((l.drop (j + 1)).take (i + 1)).any (sameI l[j])) (by omega) rfl
          rw [List.take_succ_eq_append_getElem hil, List.any_append, Bool.not_or, ← hf] at hnx
          cases fl with
          | true =>
            refine Ev.step (fun k => ?_) hnx
            rw [althinglaw12_AcceptOwn.c13_eq, lt_tt hil, inI_tt hil, getD_at hil, wrap_at (by omega), beq_sameI, List.any_cons, List.any_nil, Bool.or_false, Bool.true_and]; rfl
          | false =>
            refine Ev.step (fun k => ?_) hnx
            rw [althinglaw12_AcceptOwn.c13_eq, lt_tt hil, inI_tt hil, wrap_at (by omega), Bool.false_and]; rfl
      have := hloop (l.drop (j + 1)).length 0 true (by omega) (by simp)
      exact this
end
theorem own12_ev (l : List Rc) (self : Int) (c : Cm) : Ev (fun k => althinglaw12_AcceptOwn k l self c) true := by
  refine Ev.congr (fun k => althinglaw12_AcceptOwn_eq k l self c) ?_
  obtain ⟨q, hq, hp⟩ := few11_ex l
  refine Ev.bind hq (Ev.bif_ (fun _ => aw_then) fun e1 => ?_)
  obtain ⟨q', hq', hp'⟩ := few5_ex [c] (by simp)
  refine Ev.bind hq' (Ev.bif_ (fun _ => aw_then) fun e3 => ?_)
  have t1 : q = true := by cases q <;> simp_all
  have t3 : q' = true := by cases q' <;> simp_all
  have hc := hp' t3 c List.mem_cons_self
  obtain ⟨h20, hl⟩ := hp t1
  refine Ev.bind (rights_ev l hl) (Ev.bif_ (fun _ => aw_then) fun e4 => ?_)
  have hr : rightsV l = true := by
    have : (!rightsV l) = false := e4
    simpa using this
  refine Ev.step (fun k => althinglaw12_AcceptOwn.c3_eq k l self c) (Ev.bind (begin_ev l hl self c hc) ?_)
  rcases begin_cases l self c with (h | h) | ⟨h, a1, a2, a3, a4⟩
  · rw [h]; exact Ev.bif_tt rfl (Ev.bind (rsameR_ev _ _ small_zero) (Ev.bif_tt (sameR_refl _) aw_then))
  · rw [h]; exact Ev.bif_tt rfl (Ev.bind (rsameR_ev _ _ small_zero) (Ev.bif_tt (sameR_refl _) aw_then))
  · rw [h]
    exact Ev.bif_ff rfl (own_c7 l h20 hl hr self c hc a1 a2 a3 a4 l.length 0 (by omega))
theorem pure_AcceptOwn : ∀ zs : dens ([.sl 38 Ty_api_Record, Ty.i64, Ty_api_Command].map PK.val), WfAll _ zs → ∃ k, app _ (althinglaw12_AcceptOwn k) zs = some true := fun zs _ => (own12_ev zs.1 zs.2.1 zs.2.2.1).out
end Go.Proofs.Ytmkiodkkhfdlpaa.V
end
