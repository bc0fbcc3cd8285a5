/- What the claim ABG leans on: texts joined by bundle.py, a program of ours; the words cut down to what is used. -/
import Derived.Test.YtmkiodkkhfdlpaaBABG6
section
namespace Go.Proofs.Ytmkiodkkhfdlpaa.V
open Go Go.Vm Go.Proofs.Ytmkiodkkhfdlpaa.Strs
set_option linter.unusedVariables false
set_option linter.unusedSimpArgs false
abbrev zIn : In := Ty.zero Ty_api_Instance
abbrev zDp : Dp := Ty.zero Ty_api_Deps
def sameR (a b : Rc) : Bool := Ty.beq Ty_api_Instance a.1 b.1 && ((a.2.1 == b.2.1) && (Ty.beq Ty_api_Instance a.2.2.1 b.2.2.1 && (Ty.beq Ty_api_Instance a.2.2.2.1 b.2.2.2.1 && ((a.2.2.2.2.2.1 == b.2.2.2.2.2.1) && (Ty.beq Ty_api_Deps a.2.2.2.2.2.2.1 b.2.2.2.2.2.2.1 && (Ty.beq Ty.bool a.2.2.2.2.2.2.2 b.2.2.2.2.2.2.2 && sameV a.2.2.2.2.1 b.2.2.2.2.1))))))
theorem deps_same (d : Dp) : Ty.beq Ty_api_Deps d d = true := by
  have : ∀ l : List Int, ((l.zip l).all fun p => p.1 == p.2) = true := fun l => by
    induction l with
    | nil => rfl
    | cons x l ih => simp [ih]
  exact this d
theorem sameR_refl (a : Rc) : sameR a a = true := by
  unfold sameR
  rw [inst_refl, inst_refl, inst_refl, deps_same, bool_refl, sameV_refl]
  simp
theorem wsame_ev (a b : Rc) (h : small a.2.2.2.2.1) : Ev (fun k => wire_SameRecord k a b) (sameR a b) := by
  refine Ev.congr (fun k => wire_SameRecord_eq k a b) ?_
  exact Ev.and_ fun _ => Ev.and_ fun _ => Ev.and_ fun _ => Ev.and_ fun _ => Ev.and_ fun _ => Ev.and_ fun _ => Ev.and_ fun _ => Ev.ret (csame_ev _ _ h)
theorem rsameR_ev (a b : Rc) (h : small a.2.2.2.2.1) : Ev (fun k => althingref07_Same k a b) (sameR a b) := by
  refine Ev.congr (fun k => althingref07_Same_eq k a b) ?_
  exact Ev.and_ fun _ => Ev.and_ fun _ => Ev.and_ fun _ => Ev.and_ fun _ => Ev.and_ fun _ => Ev.and_ fun _ => Ev.and_ fun _ => Ev.ret (rsame_ev _ _ h)
def sameM (a b : Ms) : Bool := (a.1 == b.1) && ((a.2.1 == b.2.1) && ((a.2.2.1 == b.2.2.1) && (Ty.beq Ty_api_Instance a.2.2.2.1 b.2.2.2.1 && sameR a.2.2.2.2 b.2.2.2.2)))
theorem sameM_refl (a : Ms) : sameM a a = true := by
  unfold sameM
  rw [inst_refl, sameR_refl]
  simp
theorem rsameM_ev (a b : Ms) (h : small a.2.2.2.2.2.2.2.2.1) : Ev (fun k => althingref07_SameMessage k a b) (sameM a b) := by
  refine Ev.congr (fun k => althingref07_SameMessage_eq k a b) ?_
  exact Ev.and_ fun _ => Ev.and_ fun _ => Ev.and_ fun _ => Ev.and_ fun _ => Ev.ret (rsameR_ev _ _ h)
def depAt (d : Dp) (i : Nat) : Bool := !decide (List.getD (α := Int) d i 0 < 0) && !decide (List.getD (α := Int) d i 0 > 1048576)
def depsV (d : Dp) : Bool := (List.range 7).all (depAt d)
theorem dright_ev (d : Dp) : Ev (fun k => deps_Right k d) (depsV d) := by
  refine Ev.congr (fun k => deps_Right_eq k d) ((Ev.allN 7 (fun k j => deps_Right.c2 k d j) (depAt d) true ?_ ?_).to (Bool.and_true _))
  · exact Ev.step (f := fun _ => some true) (fun k => by rw [deps_Right.c2_eq, decide_eq_false (by omega)]; rfl) (Ev.some _)
  · intro i hi r hr
    refine (Ev.step (f := fun k => bif decide (List.getD (α := Int) d i 0 < 0) then some false else bif decide (List.getD (α := Int) d i 0 > 1048576) then some false else deps_Right.c2 k d ((i + 1 : Nat) : Int)) (fun k => by
      rw [deps_Right.c2_eq, decide_eq_true (show (i : Int) < 7 by omega), inI_tt hi, wrap_at (by omega), Int.toNat_natCast]; rfl) (Ev.norr fun _ => Ev.norr fun _ => hr)).to ?_
    unfold depAt; rw [Bool.and_assoc]
theorem rdright_ev (d : Dp) : Ev (fun k => althingref03_Right k d) (depsV d) := by
  refine Ev.congr (fun k => althingref03_Right_eq k d) ((Ev.allN 7 (fun k j => althingref03_Right.c2 k j d) (depAt d) true ?_ ?_).to (Bool.and_true _))
  · exact Ev.step (f := fun _ => some true) (fun k => by rw [althingref03_Right.c2_eq, decide_eq_false (by omega)]; rfl) (Ev.some _)
  · intro i hi r hr
    refine (Ev.step (f := fun k => bif decide (List.getD (α := Int) d i 0 < 0) then some false else bif decide (List.getD (α := Int) d i 0 > 1048576) then some false else althingref03_Right.c2 k ((i + 1 : Nat) : Int) d) (fun k => by
      rw [althingref03_Right.c2_eq, decide_eq_true (show (i : Int) < 7 by omega), inI_tt hi, wrap_at (by omega), Int.toNat_natCast]; rfl) (Ev.norr fun _ => Ev.norr fun _ => hr)).to ?_
    unfold depAt; rw [Bool.and_assoc]
def zeroTail (r : Rc) : Bool := Ty.beq Ty_api_Instance r.2.2.2.1 zIn && ((r.2.2.2.2.2.1 == 0) && (Ty.beq Ty_api_Deps r.2.2.2.2.2.2.1 [0, 0, 0, 0, 0, 0, 0] && sameV r.2.2.2.2.1 zCm))
def fullTail (r : Rc) : Bool := rightC r.2.2.2.2.1 && (inR r.2.2.2.2.2.1 1 big40 && depsV r.2.2.2.2.2.2.1)
def rightR (r : Rc) : Bool := instV r.1 && (rbV r.2.2.1 && (rbV r.2.2.2.1 && (!lowV r.2.2.1 r.2.2.2.1 && (inR r.2.1 0 3 && (!(r.2.2.2.2.2.2.2 && !(r.2.1 == 1)) && bif r.2.1 == 0 then zeroTail r else fullTail r)))))
theorem ev_bneboth {g : Nat → Option Bool} {a v : Bool} {x y : Int} (h : Ev g v) : Ev (fun k => bif a then (bif (x != y) then Option.some false else g k) else g k) (!(a && !(x == y)) && v) := ev_notboth (b := x != y) h
theorem wright_ev (r : Rc) (h : small r.2.2.2.2.1) : Ev (fun k => wire_RightRecord k r) (rightR r) := by
  refine Ev.congr (fun k => wire_RightRecord_eq k r) ?_
  simp only [sinst_at, srb_at, wwithin_at, Option.bind_some]
  unfold rightR
  refine Ev.nand_ fun _ => Ev.nand_ fun _ => Ev.nand_ fun _ => Ev.bind (cmpb_ev r.2.2.2.1 r.2.2.1) ?_
  rw [ord_pos]
  refine Ev.norr fun _ => Ev.nand_ fun _ => ?_
  have h3 : Ev (fun k => wire_RightRecord.c3 k r) (bif r.2.1 == 0 then sameR r (r.1, (0, (r.2.2.1, (zIn, (zCm, (0, ([0, 0, 0, 0, 0, 0, 0], false))))))) else fullTail r) := by
    refine Ev.step (fun k => wire_RightRecord.c3_eq k r) ?_
    cases hz : r.2.1 == 0 with
    | true => exact Ev.ret (wsame_ev _ _ h)
    | false =>
      simp only [wwithin_at, Option.bind_some]
      exact Ev.bind (cright_ev _ h) (Ev.and_ fun _ => Ev.and_ fun _ => Ev.ret (dright_ev _))
  refine (ev_bneboth h3).to ?_
  cases hz : r.2.1 == 0 with
  | false => rfl
  | true =>
    have h1 : (r.2.1 == 1) = false := by
      rw [beq_iff_eq] at hz
      rw [hz]; rfl
    rw [h1]
    cases hk : r.2.2.2.2.2.2.2 with
    | true => rfl
    | false =>
      show (true && sameR _ _) = (true && zeroTail r)
      unfold sameR zeroTail
      rw [hk]
      show (true && (Ty.beq Ty_api_Instance r.1 r.1 && ((r.2.1 == 0) && (Ty.beq Ty_api_Instance r.2.2.1 r.2.2.1 && _)))) = _
      rw [inst_refl, inst_refl, hz]
      rfl
theorem ge1 (n : Int) (h : (n == 0) = false) : decide (n ≥ 0) = decide (n ≥ 1) := by
  rw [beq_eq_false_iff_ne] at h
  exact decide_eq_decide.2 (by omega)
theorem rright_ev' (r : Rc) (h : small r.2.2.2.2.1) : Ev (fun k => althingref07_RightRecord k r) (rightR r) := by
  refine Ev.congr (fun k => althingref07_RightRecord_eq k r) ?_
  simp only [rinst_at, rrb_at, rlow_at, Option.bind_some]
  unfold rightR
  refine Ev.nand_ fun _ => Ev.nand_ fun _ => Ev.nand_ fun _ => Ev.norr fun _ => ?_
  have h3 : Ev (fun k => althingref07_RightRecord.c3 k r) (inR r.2.1 0 3 && bif r.2.1 == 0 then zeroTail r else fullTail r) := by
    refine Ev.step (fun k => althingref07_RightRecord.c3_eq k r) ?_
    cases hz : r.2.1 == 0 with
    | true =>
      have : inR r.2.1 0 3 = true := by rw [beq_iff_eq] at hz; rw [hz]; rfl
      rw [this]
      exact Ev.and_ fun _ => Ev.and_ fun _ => Ev.and_ fun _ => Ev.ret (rsame_ev _ _ h)
    | false =>
      have : inR r.2.1 0 3 = (decide (r.2.1 ≥ 1) && decide (r.2.1 ≤ 3)) := by
        unfold inR
        rw [ge1 _ hz]
      rw [this, Bool.and_assoc]
      refine Ev.and_ fun _ => Ev.and_ fun _ => Ev.bind (rright_ev _ h) ?_
      show Ev _ (rightC r.2.2.2.2.1 && (inR r.2.2.2.2.2.1 1 big40 && depsV r.2.2.2.2.2.2.1))
      refine (Ev.and_ fun _ => Ev.and_ fun _ => Ev.and_ fun _ => Ev.ret (rdright_ev _)).to ?_
      unfold inR
      rw [Bool.and_assoc]
  refine (ev_bneboth h3).to ?_
  rw [and_swap]
def rightM (m : Ms) : Bool := inR m.1 1 8 && (inR m.2.1 0 6 && (inR m.2.2.1 0 6 && (rbV m.2.2.2.1 && rightR m.2.2.2.2)))
theorem wrightM_ev (m : Ms) (h : small m.2.2.2.2.2.2.2.2.1) : Ev (fun k => wire_RightMessage k m) (rightM m) := by
  refine Ev.congr (fun k => wire_RightMessage_eq k m) ?_
  simp only [wwithin_at, srb_at, Option.bind_some]
  exact Ev.and_ fun _ => Ev.and_ fun _ => Ev.and_ fun _ => Ev.and_ fun _ => Ev.ret (wright_ev _ h)
theorem rrightM_ev (m : Ms) (h : small m.2.2.2.2.2.2.2.2.1) : Ev (fun k => althingref07_RightMessage k m) (rightM m) := by
  refine Ev.congr (fun k => althingref07_RightMessage_eq k m) ?_
  simp only [rrb_at, Option.bind_some]
  refine (Ev.and_ fun _ => Ev.and_ fun _ => Ev.and_ fun _ => Ev.and_ fun _ => Ev.and_ fun _ => Ev.and_ fun _ => Ev.and_ fun _ => Ev.ret (rright_ev' _ h)).to ?_
  unfold rightM inR
  simp only [Bool.and_assoc]
abbrev zR (i : In) : Rc := (i, Ty.zero (Ty.pair Ty.i64 (Ty.pair Ty_api_Instance (Ty.pair Ty_api_Instance (Ty.pair Ty_api_Command (Ty.pair Ty.i64 (Ty.pair Ty_api_Deps Ty.bool)))))))
def knowStep (i : In) (s x : Rc) : Rc := bif Ty.beq Ty_api_Instance x.1 i then x else s
def knowV (l : List Rc) (i : In) : Rc := l.foldl (knowStep i) (zR i)
theorem small_zero : small zCm := ⟨Nat.zero_le _, Nat.zero_le _, fun x hx => (by cases hx), fun x hx => (by cases hx)⟩
theorem know_mem (i : In) : ∀ (l : List Rc) (s : Rc), l.foldl (knowStep i) s = s ∨ (l.foldl (knowStep i) s ∈ l ∧ (l.foldl (knowStep i) s).1 = i)
  | [], s => .inl rfl
  | x :: l, s => by
    rw [List.foldl_cons]
    rcases know_mem i l (knowStep i s x) with h | h
    · rw [h]
      unfold knowStep
      cases hb : Ty.beq Ty_api_Instance x.1 i with
      | true => exact .inr ⟨List.mem_cons_self, inst_eq hb⟩
      | false => exact .inl rfl
    · exact .inr ⟨List.mem_cons_of_mem _ h.1, h.2⟩
theorem knowV_cases (l : List Rc) (i : In) : knowV l i = zR i ∨ (knowV l i ∈ l ∧ (knowV l i).1 = i) := know_mem i l _
theorem knowV_inst (l : List Rc) (i : In) : (knowV l i).1 = i := by
  rcases knowV_cases l i with h | h
  · rw [h]
  · exact h.2
theorem knowV_small {l : List Rc} (h : fewR l) (i : In) : small (knowV l i).2.2.2.2.1 := by
  rcases knowV_cases l i with e | e
  · rw [e]; exact small_zero
  · exact h.2 _ e.1
theorem knowV_snoc (l : List Rc) (x : Rc) (i : In) : knowV (l ++ [x]) i = bif Ty.beq Ty_api_Instance x.1 i then x else knowV l i := by
  unfold knowV
  rw [List.foldl_append]
  rfl
theorem own_at (k) (r : Rc) (h : small r.2.2.2.2.1) : accept_own k r = some r := by
  rw [accept_own_eq, clone_at _ h]; rfl
theorem know_c2 (l : List Rc) (h : fewR l) (i : In) (z : Rc) : ∀ j, j ≤ l.length → Ev (fun k => accept_Know.c2 k l ((j : Int) - 1) i z) (knowV (l.take j) i)
  | 0, hj => Ev.step (f := fun _ => some (zR i)) (fun k => by rw [accept_Know.c2_eq]; rfl) (Ev.some _)
  | j + 1, hj => by
    have hl := h.1
    have hjl : j < l.length := by omega
    rw [show (((j + 1 : Nat) : Int) - 1) = (j : Int) by omega, List.take_succ_eq_append_getElem hjl, knowV_snoc]
    have hw : IntKind.wrap .i64 ((j : Int) - 1) = (j : Int) - 1 := wrap_id (by omega) (by omega)
    refine Ev.step (f := fun k => bif Ty.beq Ty_api_Instance l[j].1 i then (accept_own k l[j]).bind fun r0 => some r0 else accept_Know.c2 k l ((j : Int) - 1) i z) (fun k => by
      rw [accept_Know.c2_eq, decide_eq_true (show (j : Int) ≥ 0 by omega), inI_tt hjl, getD_at hjl, hw]; rfl) ?_
    cases hb : Ty.beq Ty_api_Instance l[j].1 i with
    | true => exact Ev.ret (Ev.at_ fun k => own_at k _ (h.2 _ (List.getElem_mem hjl)))
    | false => exact know_c2 l h i z j (by omega)
theorem know_ev (l : List Rc) (h : fewR l) (i : In) : Ev (fun k => accept_Know k l i) (knowV l i) := by
  have hl := h.1
  have := know_c2 l h i (Ty.zero Ty_api_Record) l.length (Nat.le_refl _)
  rw [List.take_length] at this
  refine Ev.congr (fun k => accept_Know_eq k l i) ?_
  rw [wrap_id (by omega) (by omega)]
  exact this
theorem rknow_ev (l : List Rc) (hl : l.length ≤ 1000000) (i : In) : Ev (fun k => althingref12_Know k l i) (knowV l i) := by
  refine Ev.congr (fun k => althingref12_Know_eq k l i) ?_
  exact Ev.fold0 l (fun k s j => althingref12_Know.c3 k l j i (Ty.zero Ty_api_Record) s) (knowStep i) id (fun _ _ => True) (zR i) trivial
    (fun s _ => Ev.step (f := fun _ => some s) (fun k => by rw [althingref12_Know.c3_eq, lt_ff (Nat.lt_irrefl _)]; rfl) (Ev.some s))
    (fun j s hj _ => ⟨trivial, fun r hr => by
      refine Ev.step (f := fun k => bif Ty.beq Ty_api_Instance l[j].1 i then althingref12_Know.c3 k l ((j + 1 : Nat) : Int) i (Ty.zero Ty_api_Record) l[j] else althingref12_Know.c3 k l ((j + 1 : Nat) : Int) i (Ty.zero Ty_api_Record) s) (fun k => by
        rw [althingref12_Know.c3_eq, lt_tt hj, inI_tt hj, getD_at hj, wrap_at (by omega)]; rfl) ?_
      unfold knowStep at hr
      cases hb : Ty.beq Ty_api_Instance l[j].1 i with
      | true => rw [hb] at hr; exact hr
      | false => rw [hb] at hr; exact hr⟩)
end Go.Proofs.Ytmkiodkkhfdlpaa.V
end
section
namespace Go.Proofs.Ytmkiodkkhfdlpaa.V
open Go Go.Vm Go.Proofs.Ytmkiodkkhfdlpaa.Strs
set_option linter.unusedVariables false
set_option linter.unusedSimpArgs false
abbrev Stp := Ty_accept_Step.den
abbrev stepZ : Stp := Ty.zero Ty_accept_Step
def keepV (s : Stp) (r : Rc) : Stp := (r, (true, s.2.2))
def tellV (s : Stp) (m : Ms) (kind : Int) (b : In) (r : Rc) : Stp := (s.1, (s.2.1, ((kind, (m.2.2.1, (m.2.1, (b, r)))), true)))
def prom (r : Rc) (b : In) : Rc := (r.1, (r.2.1, (b, r.2.2.2)))
def questionV (self : Int) (m : Ms) : Bool := rightM m && ((m.2.2.1 == self) && bif m.1 == 1 then (m.2.2.2.2.2.1 == 1) && Ty.beq Ty_api_Instance m.2.2.2.2.2.2.2.1 m.2.2.2.1 else bif m.1 == 3 then (m.2.2.2.2.2.1 == 2) && Ty.beq Ty_api_Instance m.2.2.2.2.2.2.2.1 m.2.2.2.1 else bif m.1 == 5 then m.2.2.2.2.2.1 == 3 else m.1 == 6)
theorem question_ev (self : Int) (m : Ms) (h : small m.2.2.2.2.2.2.2.2.1) : Ev (fun k => accept_question k self m) (questionV self m) := by
  refine Ev.congr (fun k => accept_question_eq k self m) (Ev.bind (wrightM_ev m h) (Ev.nand_ fun _ => Ev.bne_ fun _ => Ev.step (fun k => accept_question.c3_eq k m) ?_))
  have q1 : ∀ n k, accept_question_1 k n m = some ((m.2.2.2.2.2.1 == n) && Ty.beq Ty_api_Instance m.2.2.2.2.2.2.2.1 m.2.2.2.1) := fun n k => by rw [accept_question_1_eq, cs]
  simp only [q1, Option.bind_some]
  cases m.1 == 1 with
  | true => exact Ev.some _
  | false =>
    cases m.1 == 3 with
    | true => exact Ev.some _
    | false =>
      cases m.1 == 5 with
      | true => exact Ev.some _
      | false => exact Ev.some _
def commitV (k r : Rc) : Rc := bif lowV k.2.2.1 r.2.2.2.1 then prom r r.2.2.2.1 else prom r k.2.2.1
def preV (l : List Rc) (m : Ms) (r : Rc) : Rc :=
  let a := attrsV l r.1 r.2.2.2.2.1 r.2.2.2.2.2.1 r.2.2.2.2.2.2.1
  (r.1, (r.2.1, (r.2.2.1, (r.2.2.2.1, (r.2.2.2.2.1, (a.1, (a.2, (a.1 == m.2.2.2.2.2.2.2.2.2.1) && Ty.beq Ty_api_Deps a.2 m.2.2.2.2.2.2.2.2.2.2.1)))))))
def lastV (m : Ms) (k r : Rc) (same : Bool) : Stp × Int :=
  bif m.1 == 3 then (bif same && (k.2.1 == 2) then (tellV stepZ m 4 m.2.2.2.1 k, 0) else (tellV (keepV stepZ r) m 4 m.2.2.2.1 r, 0))
  else bif Ty.beq Ty_api_Instance k.2.2.1 m.2.2.2.1 then (tellV stepZ m 7 m.2.2.2.1 k, 0) else (tellV (keepV stepZ (prom k m.2.2.2.1)) m 7 m.2.2.2.1 (prom k m.2.2.2.1), 0)
def restV (l : List Rc) (m : Ms) (k r : Rc) (same : Bool) : Stp × Int :=
  bif m.1 == 1 then
    bif same && (k.2.1 == 1) then (tellV stepZ m 2 m.2.2.2.1 k, 0)
    else bif same && (k.2.1 == 2) then (stepZ, 9)
    else (tellV (keepV stepZ (preV l m r)) m 2 m.2.2.2.1 (preV l m r), 0)
  else lastV m k r same
def doneV (l : List Rc) (m : Ms) (k r : Rc) (same : Bool) : Stp × Int :=
  bif m.1 == 5 then (bif k.2.1 == 3 then (stepZ, 0) else (keepV stepZ (commitV k r), 0))
  else bif k.2.1 == 3 then (tellV stepZ m 5 k.2.2.2.1 k, 0)
  else bif lowV m.2.2.2.1 k.2.2.1 then (tellV stepZ m 8 k.2.2.1 (zR k.1), 0)
  else restV l m k r same
def handleV (l : List Rc) (self : Int) (m : Ms) : Stp × Int :=
  bif questionV self m then
    let k := knowV l m.2.2.2.2.1
    doneV l m k (prom m.2.2.2.2 m.2.2.2.1) (Ty.beq Ty_api_Instance k.2.2.2.1 m.2.2.2.1)
  else (stepZ, 1)
theorem keep_at (k) (s : Stp) (r : Rc) (h : small r.2.2.2.2.1) : accept_Step_keep k s r = some (keepV s r) := by rw [accept_Step_keep_eq, own_at k r h]; rfl
theorem tell_at (k) (s : Stp) (m : Ms) (n : Int) (b : In) (r : Rc) (h : small r.2.2.2.2.1) : accept_Step_tell k s m n b r = some (tellV s m n b r) := by rw [accept_Step_tell_eq, own_at k r h]; rfl
section
variable (l : List Rc) (m : Ms) (z : Stp) (kk r : Rc) (same : Bool) (hl : fewR l) (hm : small m.2.2.2.2.2.2.2.2.1) (hk : small kk.2.2.2.2.1) (hr : small r.2.2.2.2.1)
include hk in
theorem h33 (s : Stp) : Ev (fun k => accept_Handle.c33 k m z s kk) (tellV s m 7 m.2.2.2.1 kk, 0) :=
  Ev.step (f := fun _ => some (tellV s m 7 m.2.2.2.1 kk, 0)) (fun k => by rw [accept_Handle.c33_eq, tell_at _ _ _ _ _ _ hk]; rfl) (Ev.some _)
include hr in
theorem h25 : Ev (fun k => accept_Handle.c25 k m z stepZ r) (tellV (keepV stepZ r) m 2 m.2.2.2.1 r, 0) :=
  Ev.step (f := fun _ => some (tellV (keepV stepZ r) m 2 m.2.2.2.1 r, 0)) (fun k => by rw [accept_Handle.c25_eq, keep_at _ _ _ hr, Option.bind_some, tell_at _ _ _ _ _ _ hr]; rfl) (Ev.some _)
include hk in
theorem h27 : Ev (fun k => accept_Handle.c27 k m z stepZ kk) (tellV stepZ m 4 m.2.2.2.1 kk, 0) :=
  Ev.step (f := fun _ => some (tellV stepZ m 4 m.2.2.2.1 kk, 0)) (fun k => by rw [accept_Handle.c27_eq, tell_at _ _ _ _ _ _ hk]; rfl) (Ev.some _)
include hk in
theorem h19 : Ev (fun k => accept_Handle.c19 k m z stepZ kk) (tellV stepZ m 2 m.2.2.2.1 kk, 0) :=
  Ev.step (f := fun _ => some (tellV stepZ m 2 m.2.2.2.1 kk, 0)) (fun k => by rw [accept_Handle.c19_eq, tell_at _ _ _ _ _ _ hk]; rfl) (Ev.some _)
include hk hr in
theorem h28 : Ev (fun k => accept_Handle.c28 k m z stepZ kk r) (bif m.1 == 3 then (tellV (keepV stepZ r) m 4 m.2.2.2.1 r, 0) else bif Ty.beq Ty_api_Instance kk.2.2.1 m.2.2.2.1 then (tellV stepZ m 7 m.2.2.2.1 kk, 0) else (tellV (keepV stepZ (prom kk m.2.2.2.1)) m 7 m.2.2.2.1 (prom kk m.2.2.2.1), 0)) := by
  refine Ev.step (fun k => accept_Handle.c28_eq k m z stepZ kk r) ?_
  cases m.1 == 3 with
  | true => exact Ev.at_ fun k => by rw [keep_at _ _ _ hr]; show Option.bind _ _ = _; rw [tell_at _ _ _ _ _ _ hr]; rfl
  | false =>
    refine Ev.bif_ff rfl ?_
    cases Ty.beq Ty_api_Instance kk.2.2.1 m.2.2.2.1 with
    | true => exact Ev.bif_ff rfl (h33 m z kk hk stepZ)
    | false =>
      refine Ev.bif_tt rfl (Ev.bind (Ev.at_ fun k => keep_at k stepZ (prom kk m.2.2.2.1) hk) ?_)
      exact h33 m z (prom kk m.2.2.2.1) hk _
include hl hr hk in
theorem h22 (hr2 : prom m.2.2.2.2 m.2.2.2.1 = r) : Ev (fun k => accept_Handle.c22 k l same m z stepZ kk r) (bif m.1 == 1 then (tellV (keepV stepZ (preV l m r)) m 2 m.2.2.2.1 (preV l m r), 0) else lastV m kk r same) := by
  refine Ev.step (fun k => accept_Handle.c22_eq k l same m z stepZ kk r) ?_
  cases h1 : m.1 == 1 with
  | true =>
    refine Ev.bif_tt rfl (Ev.bind (attrs_ev l hl r.1 _ hr _ _) ?_)
    unfold preV
    generalize attrsV l r.1 r.2.2.2.2.1 r.2.2.2.2.2.1 r.2.2.2.2.2.2.1 = a
    have H : ∀ b : Bool, Ev (fun k => accept_Handle.c25 k m z stepZ (r.1, (r.2.1, (r.2.2.1, (r.2.2.2.1, (r.2.2.2.2.1, (a.1, (a.2, b)))))))) (tellV (keepV stepZ (r.1, (r.2.1, (r.2.2.1, (r.2.2.2.1, (r.2.2.2.2.1, (a.1, (a.2, b)))))))) m 2 m.2.2.2.1 (r.1, (r.2.1, (r.2.2.1, (r.2.2.2.1, (r.2.2.2.2.1, (a.1, (a.2, b))))))), 0) := fun b => h25 m z (r.1, (r.2.1, (r.2.2.1, (r.2.2.2.1, (r.2.2.2.2.1, (a.1, (a.2, b))))))) hr
    show Ev _ (tellV (keepV stepZ (r.1, (r.2.1, (r.2.2.1, (r.2.2.2.1, (r.2.2.2.2.1, (a.1, (a.2, (a.1 == m.2.2.2.2.2.2.2.2.2.1) && Ty.beq Ty_api_Deps a.2 m.2.2.2.2.2.2.2.2.2.2.1)))))))) m 2 m.2.2.2.1 (r.1, (r.2.1, (r.2.2.1, (r.2.2.2.1, (r.2.2.2.2.1, (a.1, (a.2, (a.1 == m.2.2.2.2.2.2.2.2.2.1) && Ty.beq Ty_api_Deps a.2 m.2.2.2.2.2.2.2.2.2.2.1))))))), (0 : Int))
    cases a.1 == m.2.2.2.2.2.2.2.2.2.1 with
    | true => exact Ev.bif_tt rfl (H _)
    | false => exact Ev.bif_ff rfl (H _)
  | false =>
    refine Ev.bif_ff rfl ?_
    have h := h28 m z kk r hk hr
    unfold lastV
    cases h3 : m.1 == 3 with
    | true =>
      rw [h3] at h
      cases same with
      | false => exact h
      | true =>
        cases h4 : kk.2.1 == 2 with
        | true => exact h27 m z kk hk
        | false => exact h
    | false =>
      rw [h3] at h
      exact h
include hl hr hk in
theorem h20 (hr2 : prom m.2.2.2.2 m.2.2.2.1 = r) : Ev (fun k => accept_Handle.c20 k l same m z stepZ kk r) (bif m.1 == 1 then (bif same && (kk.2.1 == 2) then (stepZ, 9) else (tellV (keepV stepZ (preV l m r)) m 2 m.2.2.2.1 (preV l m r), 0)) else lastV m kk r same) := by
  refine Ev.step (fun k => accept_Handle.c20_eq k l same m z stepZ kk r) ?_
  have h := h22 l m z kk r same hl hk hr hr2
  cases h1 : m.1 == 1 with
  | false => rw [h1] at h; exact h
  | true =>
    rw [h1] at h
    cases same with
    | false => exact h
    | true =>
      cases h4 : kk.2.1 == 2 with
      | false => exact h
      | true => exact Ev.some _
include hl hr hk in
theorem h9 (hr2 : prom m.2.2.2.2 m.2.2.2.1 = r) (hkeep : (m.1 == 5 && (kk.2.1 == 3)) = false) : Ev (fun k => accept_Handle.c9 k l same m z stepZ kk r) (doneV l m kk r same) := by
  refine Ev.step (fun k => accept_Handle.c9_eq k l same m z stepZ kk r) ?_
  unfold doneV
  cases h5 : m.1 == 5 with
  | true =>
    rw [h5, Bool.true_and] at hkeep
    rw [hkeep]
    refine Ev.bif_tt rfl (Ev.bind (cmpb_ev r.2.2.2.1 kk.2.2.1) ?_)
    rw [ord_pos]
    show Ev _ (keepV stepZ (bif lowP kk.2.2.1.1 kk.2.2.1.2 r.2.2.2.1.1 r.2.2.2.1.2 then _ else _), (0 : Int))
    cases lowP kk.2.2.1.1 kk.2.2.1.2 r.2.2.2.1.1 r.2.2.2.1.2 with
    | true => exact Ev.bif_tt rfl (Ev.bind (Ev.at_ fun k => keep_at k stepZ (prom r r.2.2.2.1) hr) (Ev.some _))
    | false => exact Ev.bif_ff rfl (Ev.bind (Ev.at_ fun k => keep_at k stepZ (prom r kk.2.2.1) hr) (Ev.some _))
  | false =>
    refine Ev.bif_ff rfl ?_
    cases h3 : kk.2.1 == 3 with
    | true => exact Ev.bind (Ev.at_ fun k => tell_at k stepZ m 5 _ kk hk) (Ev.some _)
    | false =>
      refine Ev.bif_ff rfl (Ev.bind (cmpb_ev m.2.2.2.1 kk.2.2.1) ?_)
      rw [ord_neg]
      unfold lowV
      cases lowP m.2.2.2.1.1 m.2.2.2.1.2 kk.2.2.1.1 kk.2.2.1.2 with
      | true => exact Ev.bif_tt rfl (Ev.bind (Ev.at_ fun k => tell_at k stepZ m 8 _ (zR kk.1) small_zero) (Ev.some _))
      | false =>
        refine Ev.bif_ff rfl ?_
        have h := h20 l m z kk r same hl hk hr hr2
        unfold restV
        cases h1 : m.1 == 1 with
        | false => rw [h1] at h; exact h
        | true =>
          rw [h1] at h
          cases same with
          | false => exact h
          | true =>
            cases h4 : kk.2.1 == 1 with
            | false => exact h
            | true => exact h19 m z kk hk
end
theorem handle_ev (l : List Rc) (hl : fewR l) (self : Int) (m : Ms) (hm : small m.2.2.2.2.2.2.2.2.1) : Ev (fun k => accept_Handle k l self m) (handleV l self m) := by
  refine Ev.congr (fun k => accept_Handle_eq k l self m) (Ev.bind (question_ev self m hm) ?_)
  unfold handleV
  cases questionV self m with
  | false => exact Ev.some _
  | true =>
    refine Ev.bif_ff rfl (Ev.bind (know_ev l hl _) ?_)
    have hk := knowV_small hl m.2.2.2.2.1
    generalize knowV l m.2.2.2.2.1 = kk at hk ⊢
    cases h5 : m.1 == 5 with
    | false => exact h9 l m _ kk _ _ hl hk hm rfl (by rw [h5]; rfl)
    | true =>
      cases h3 : kk.2.1 == 3 with
      | false => exact h9 l m _ kk _ _ hl hk hm rfl (by rw [h3, Bool.and_false])
      | true =>
        refine (Ev.some (stepZ, (0 : Int))).to ?_
        show _ = doneV l m kk _ _
        unfold doneV
        rw [h5, h3]; rfl
theorem nil_few : fewR [] := ⟨Nat.zero_le _, fun x hx => by cases hx⟩
abbrev awM : Ms := (6, (1, (2, ((2, 1), ((0, 4), (Ty.zero (Ty.pair Ty.i64 (Ty.pair Ty_api_Instance (Ty.pair Ty_api_Instance (Ty.pair Ty_api_Command (Ty.pair Ty.i64 (Ty.pair Ty_api_Deps Ty.bool))))))))))))
theorem aw_is : handleV [] 2 awM = (tellV (keepV stepZ (prom (zR (0, 4)) (2, 1))) awM 7 (2, 1) (prom (zR (0, 4)) (2, 1)), 0) := by kernel_rfl
theorem aw12_ev : Ev (fun k => althinglaw12_awake k) true := by
  have h := handle_ev [] nil_few 2 awM small_zero
  rw [aw_is] at h
  refine Ev.congr (fun k => althinglaw12_awake_eq k) (Ev.bind h ?_)
  exact Ev.bif_tt rfl (Ev.bif_tt rfl (Ev.bif_tt rfl (Ev.bif_tt rfl (Ev.bif_tt rfl (Ev.bif_tt rfl (Ev.some _))))))
theorem aw_then : Ev (fun k => (althinglaw12_awake k).bind fun r => some r) true := Ev.ret aw12_ev
def rightsV (l : List Rc) : Bool := l.all rightR
theorem rights_ev (l : List Rc) (h : fewR l) : Ev (fun k => althinglaw12_rights k l) (rightsV l) := by
  have hl := h.1
  refine Ev.congr (fun k => althinglaw12_rights_eq k l) ((Ev.allL l (fun k j => althinglaw12_rights.c2 k l (l.length : Int) j) rightR true ?_ ?_).to (Bool.and_true _))
  · exact Ev.step (f := fun _ => some true) (fun k => by rw [althinglaw12_rights.c2_eq, lt_ff (Nat.lt_irrefl _)]; rfl) (Ev.some _)
  · intro i hi r hr
    exact Ev.step (f := fun k => (althingref07_RightRecord k l[i]).bind fun r0 => bif !r0 then some false else althinglaw12_rights.c2 k l (l.length : Int) ((i + 1 : Nat) : Int)) (fun k => by
      rw [althinglaw12_rights.c2_eq, lt_tt hi, inI_tt hi, getD_at hi, wrap_at (by omega)]; rfl) (Ev.bind (rright_ev' _ (h.2 _ (List.getElem_mem hi))) (Ev.nand_ fun _ => hr))
theorem few12_ex (l : List Rc) (m : Ms) : ∃ q, Ev (fun k => althinglaw12_few k l m) q ∧ (q = true → l.length ≤ 20 ∧ fewR l ∧ small m.2.2.2.2.2.2.2.2.1) := by
  obtain ⟨q, hq, hp⟩ := few11_ex l
  obtain ⟨q', hq', hp'⟩ := few5_ex [m.2.2.2.2.2.2.2.2.1] (by simp)
  refine ⟨q && q', Ev.congr (fun k => althinglaw12_few_eq k l m) (Ev.bind hq (Ev.and_ fun _ => Ev.ret hq')), fun h => ?_⟩
  rw [Bool.and_eq_true] at h
  exact ⟨(hp h.1).1, (hp h.1).2, hp' h.2 _ List.mem_cons_self⟩
end Go.Proofs.Ytmkiodkkhfdlpaa.V
end
section
namespace Go.Proofs.Ytmkiodkkhfdlpaa.V
open Go Go.Vm Go.Proofs.Ytmkiodkkhfdlpaa.Strs
set_option linter.unusedVariables false
set_option linter.unusedSimpArgs false
def slotStep (self : Int) (n : Int) (x : Rc) : Int := bif x.1.1 == self then max n (min x.1.2 1048576) else n
def slotF (l : List Rc) (self : Int) : Int := l.foldl (slotStep self) 0
theorem slotStep_in (self n : Int) (x : Rc) (h : 0 ≤ n ∧ n ≤ 1048576) : 0 ≤ slotStep self n x ∧ slotStep self n x ≤ 1048576 := by
  obtain ⟨⟨p, q⟩, rest⟩ := x
  have e : slotStep self n (((p, q), rest) : Rc) = bif p == self then max n (min q 1048576) else n := rfl
  rw [e]
  cases p == self with
  | false => exact h
  | true => exact ⟨by show (0 : Int) ≤ max n (min q 1048576); omega, by show max n (min q 1048576) ≤ 1048576; omega⟩
theorem slotFold_in (self : Int) : ∀ (l : List Rc) (n : Int), 0 ≤ n ∧ n ≤ 1048576 → 0 ≤ l.foldl (slotStep self) n ∧ l.foldl (slotStep self) n ≤ 1048576
  | [], n, h => h
  | x :: l, n, h => slotFold_in self l _ (slotStep_in self n x h)
theorem slotF_in (l : List Rc) (self : Int) : 0 ≤ slotF l self ∧ slotF l self ≤ 1048576 := slotFold_in self l 0 (by omega)
theorem slot_ev (l : List Rc) (hl : l.length ≤ 1000) (self : Int) : Ev (fun k => index_Slot k l self) (slotF l self + 1) := by
  refine Ev.congr (fun k => index_Slot_eq k l self) ?_
  have h0 := Ev.fold0 l (fun k s j => index_Slot.c3 k self s l (l.length : Int) j) (slotStep self) (fun n => IntKind.wrap .i64 (n + 1)) (fun _ _ => True) (0 : Int) trivial
    (fun s _ => Ev.step (f := fun _ => some (IntKind.wrap .i64 (s + 1))) (fun k => by rw [index_Slot.c3_eq, lt_ff (Nat.lt_irrefl _)]; rfl) (Ev.some _))
    (fun j s hj _ => ⟨trivial, fun r hr => by
      refine Ev.step (f := fun k => bif l[j].1.1 == self then index_Slot.c3 k self (max s (min l[j].1.2 1048576)) l (l.length : Int) ((j + 1 : Nat) : Int) else index_Slot.c3 k self s l (l.length : Int) ((j + 1 : Nat) : Int)) (fun k => by
        rw [index_Slot.c3_eq, lt_tt hj, inI_tt hj, getD_at hj, wrap_at (by omega)]; rfl) ?_
      unfold slotStep at hr
      cases hb : l[j].1.1 == self with
      | true => rw [hb] at hr; exact hr
      | false => rw [hb] at hr; exact hr⟩)
  have hi := slotF_in l self
  exact h0.to (wrap_id (by show _ ≤ slotF l self + 1; omega) (by show slotF l self + 1 ≤ _; omega))
theorem mm1 {q n : Int} (h : q > n) : max (min n 1048576) (min q 1048576) = min q 1048576 := by omega
theorem mm2 {q n : Int} (h : ¬ q > n) : max (min n 1048576) (min q 1048576) = min n 1048576 := by omega
theorem mm3 {q n : Int} (h : q > n) (h0 : 0 ≤ n) : 0 ≤ q := by omega
theorem mm4 {q : Int} (n : Int) (h : q ≤ 1048576) : q ≤ max n (min q 1048576) := by omega
def rslotStep (self : Int) (n : Int) (x : Rc) : Int := bif x.1.1 == self then (bif decide (x.1.2 > n) then x.1.2 else n) else n
theorem rslot_rel (self : Int) : ∀ (l : List Rc) (n : Int), 0 ≤ n → 0 ≤ l.foldl (rslotStep self) n ∧ l.foldl (slotStep self) (min n 1048576) = min (l.foldl (rslotStep self) n) 1048576
  | [], n, h => ⟨h, rfl⟩
  | x :: l, n, h => by
    obtain ⟨⟨p, q⟩, rest⟩ := x
    have e1 : slotStep self (min n 1048576) (((p, q), rest) : Rc) = bif p == self then max (min n 1048576) (min q 1048576) else min n 1048576 := rfl
    have e2 : rslotStep self n (((p, q), rest) : Rc) = bif p == self then (bif decide (q > n) then q else n) else n := rfl
    rw [List.foldl_cons, List.foldl_cons, e1, e2]
    cases p == self with
    | false => exact rslot_rel self l n h
    | true =>
      by_cases hq : q > n
      · have := rslot_rel self l q (mm3 hq h)
        rw [decide_eq_true hq]
        show _ ∧ l.foldl (slotStep self) (max (min n 1048576) (min q 1048576)) = _
        rw [mm1 hq]
        exact this
      · have := rslot_rel self l n h
        rw [decide_eq_false hq]
        show _ ∧ l.foldl (slotStep self) (max (min n 1048576) (min q 1048576)) = _
        rw [mm2 hq]
        exact this
theorem rslot_ev (l : List Rc) (hl : l.length ≤ 1000) (self : Int) : Ev (fun k => althingref11_Slot k l self) (slotF l self + 1) := by
  refine Ev.congr (fun k => althingref11_Slot_eq k l self) ?_
  have h0 := Ev.fold0 l (fun k s j => althingref11_Slot.c3 k l self s j) (rslotStep self) (fun n => bif decide (n > 1048576) then IntKind.wrap .i64 (1048576 + 1) else IntKind.wrap .i64 (n + 1)) (fun _ _ => True) (0 : Int) trivial
    (fun s _ => by
      refine Ev.step (fun k => by rw [althingref11_Slot.c3_eq, lt_ff (Nat.lt_irrefl _)]; rfl) (?_ : Ev (fun _ => bif decide (s > 1048576) then some (IntKind.wrap .i64 (1048576 + 1)) else some (IntKind.wrap .i64 (s + 1))) _)
      cases decide (s > 1048576) <;> exact Ev.some _)
    (fun j s hj _ => ⟨trivial, fun r hr => by
      have h4 : ∀ n, n = rslotStep self s l[j] → Ev (fun k => althingref11_Slot.c4 k l self n (j : Int)) r := fun n hn => by
        subst hn
        exact Ev.step (fun k => by rw [althingref11_Slot.c4_eq, wrap_at (by omega)]) hr
      refine Ev.step (f := fun k => bif l[j].1.1 == self then (bif decide (l[j].1.2 > s) then althingref11_Slot.c6 k l self (j : Int) else althingref11_Slot.c4 k l self s (j : Int)) else althingref11_Slot.c4 k l self s (j : Int)) (fun k => by
        rw [althingref11_Slot.c3_eq, lt_tt hj, inI_tt hj, getD_at hj]; rfl) ?_
      unfold rslotStep at h4
      cases hb : l[j].1.1 == self with
      | false => rw [hb] at h4; exact h4 s rfl
      | true =>
        rw [hb] at h4
        refine Ev.bif_tt rfl ?_
        cases hc : decide (l[j].1.2 > s) with
        | false => rw [hc] at h4; exact h4 s rfl
        | true =>
          rw [hc] at h4
          exact Ev.step (f := fun k => althingref11_Slot.c4 k l self l[j].1.2 (j : Int)) (fun k => by rw [althingref11_Slot.c6_eq, inI_tt hj, getD_at hj]; rfl) (h4 _ rfl)⟩)
  refine h0.to ?_
  have hr := rslot_rel self l 0 (Int.le_refl _)
  have hs : slotF l self = min (l.foldl (rslotStep self) 0) 1048576 := hr.2
  rw [hs]
  have h1 := hr.1
  generalize l.foldl (rslotStep self) 0 = n at h1 ⊢
  by_cases hn : n > 1048576
  · rw [decide_eq_true hn, show min n 1048576 = (1048576 : Int) by omega]; rfl
  · rw [decide_eq_false hn, show min n 1048576 = n by omega]
    exact wrap_id (by omega) (by omega)
theorem slot_above (self : Int) : ∀ (l : List Rc) (n : Int), n ≤ 1048576 → n ≤ l.foldl (slotStep self) n ∧ ∀ x ∈ l, @Eq Int x.1.1 self → x.1.2 ≤ 1048576 → x.1.2 ≤ l.foldl (slotStep self) n
  | [], n, h => ⟨Int.le_refl _, fun x hx => by cases hx⟩
  | y :: l, n, h => by
    obtain ⟨⟨p, q⟩, rest⟩ := y
    have e1 : slotStep self n (((p, q), rest) : Rc) = bif p == self then max n (min q 1048576) else n := rfl
    rw [List.foldl_cons, e1]
    by_cases hp : p = self
    · have hb : (p == self) = true := beq_iff_eq.2 hp
      rw [hb]
      have ih := slot_above self l (max n (min q 1048576)) (by omega)
      refine ⟨Int.le_trans (Int.le_max_left _ _) ih.1, fun x hx hs hm => ?_⟩
      rcases List.mem_cons.1 hx with rfl | hx
      · exact Int.le_trans (mm4 n hm) ih.1
      · exact ih.2 x hx hs hm
    · have hb : (p == self) = false := beq_eq_false_iff_ne.2 hp
      rw [hb]
      have ih := slot_above self l n h
      refine ⟨ih.1, fun x hx hs hm => ?_⟩
      rcases List.mem_cons.1 hx with rfl | hx
      · exact absurd hs hp
      · exact ih.2 x hx hs hm
abbrev zRec : Rc := Ty.zero Ty_api_Record
def begunV (l : List Rc) (self : Int) (c : Cm) : Rc :=
  let a := attrsV l (self, slotF l self + 1) c 1 [0, 0, 0, 0, 0, 0, 0]
  ((self, slotF l self + 1), (1, (zIn, (zIn, (c, (a.1, (a.2, true)))))))
def beginV (l : List Rc) (self : Int) (c : Cm) : Rc × Int :=
  bif decide (self < 0) then (zRec, 1) else bif decide (self ≥ 7) then (zRec, 1) else bif !rightC c then (zRec, 1) else
  bif decide (slotF l self + 1 > 1048576) then (zRec, 2) else (begunV l self c, 0)
theorem begin_ev (l : List Rc) (hl : fewR l) (self : Int) (c : Cm) (hc : small c) : Ev (fun k => accept_Begin k l self c) (beginV l self c) := by
  refine Ev.congr (fun k => accept_Begin_eq k l self c) ?_
  have h1 := hl.1
  unfold beginV
  cases decide (self < 0) with
  | true => exact Ev.some _
  | false =>
    refine Ev.bif_ff rfl ?_
    cases decide (self ≥ 7) with
    | true => exact Ev.some _
    | false =>
      refine Ev.bif_ff rfl (Ev.bind (cright_ev c hc) ?_)
      cases rightC c with
      | false => exact Ev.some _
      | true =>
        refine Ev.bif_ff rfl (Ev.step (fun k => accept_Begin.c3_eq k l self c (Ty.zero Ty_api_Record)) (Ev.bind (slot_ev l (by omega) self) ?_))
        cases decide (slotF l self + 1 > 1048576) with
        | true => exact Ev.some _
        | false => exact Ev.bif_ff rfl (Ev.bind (attrs_ev l hl _ c hc 1 _) (Ev.bind (Ev.at_ fun k => own_at k (begunV l self c) hc) (Ev.some _)))
theorem rbegin_ev (l : List Rc) (hl : fewR l) (self : Int) (c : Cm) (hc : small c) : Ev (fun k => althingref12_Begin k l self c) (beginV l self c) := by
  refine Ev.congr (fun k => althingref12_Begin_eq k l self c) ?_
  have h1 := hl.1
  unfold beginV
  cases decide (self < 0) with
  | true => exact Ev.some _
  | false =>
    refine Ev.bif_ff rfl ?_
    rw [show decide (self > 6) = decide (self ≥ 7) from decide_eq_decide.2 (by omega)]
    cases decide (self ≥ 7) with
    | true => exact Ev.some _
    | false =>
      refine Ev.bif_ff rfl (Ev.bind (rright_ev c hc) ?_)
      cases rightC c with
      | false => exact Ev.some _
      | true =>
        refine Ev.bif_ff rfl (Ev.step (fun k => althingref12_Begin.c3_eq k l self c (Ty.zero Ty_api_Record)) (Ev.bind (rslot_ev l (by omega) self) ?_))
        cases decide (slotF l self + 1 > 1048576) with
        | true => exact Ev.some _
        | false => exact Ev.bif_ff rfl (Ev.bind (rattrs_ev l hl _ c hc 1 _) (Ev.some _))
theorem begin_small (l : List Rc) (self : Int) (c : Cm) (hc : small c) : small (beginV l self c).1.2.2.2.2.1 := by
  unfold beginV
  cases decide (self < 0) with
  | true => exact small_zero
  | false =>
    cases decide (self ≥ 7) with
    | true => exact small_zero
    | false =>
      cases rightC c with
      | false => exact small_zero
      | true =>
        cases decide (slotF l self + 1 > 1048576) with
        | true => exact small_zero
        | false => exact hc
end Go.Proofs.Ytmkiodkkhfdlpaa.V
end
section
namespace Go.Proofs.Ytmkiodkkhfdlpaa.V
open Go Go.Vm Go.Proofs.Ytmkiodkkhfdlpaa.Strs
set_option linter.unusedVariables false
set_option linter.unusedSimpArgs false
theorem begins_ev (l : List Rc) (self : Int) (c : Cm) (i : In) : Ev (fun k => althinglaw12_AcceptBegins k l self c i) true := by
  refine Ev.congr (fun k => althinglaw12_AcceptBegins_eq k l self c i) ?_
  obtain ⟨q, hq, hp⟩ := few11_ex l
  refine Ev.bind hq (Ev.bif_ (fun _ => aw_then) fun e1 => ?_)
  obtain ⟨q', hq', hp'⟩ := few5_ex [c] (by simp)
  refine Ev.bind hq' (Ev.bif_ (fun _ => aw_then) fun e3 => ?_)
  have t1 : q = true := by cases q <;> simp_all
  have t3 : q' = true := by cases q' <;> simp_all
  have hc := hp' t3 c List.mem_cons_self
  have hl := (hp t1).2
  have h1 := hl.1
  refine Ev.step (fun k => althinglaw12_AcceptBegins.c3_eq k l self c i) (Ev.bind (begin_ev l hl self c hc) (Ev.bind (rbegin_ev l hl self c hc) (Ev.bind (rsameR_ev _ _ (begin_small l self c hc)) (Ev.bif_tt (sameR_refl _) (Ev.bif_tt (by simp) ?_)))))
  exact Ev.bind (know_ev l hl i) (Ev.bind (rknow_ev l (by omega) i) (Ev.bind (rsameR_ev _ _ (knowV_small hl i)) (Ev.bif_tt (sameR_refl _) aw_then)))
theorem pure_AcceptBegins : ∀ zs : dens ([.sl 38 Ty_api_Record, Ty.i64, Ty_api_Command, Ty_api_Instance].map PK.val), WfAll _ zs → ∃ k, app _ (althinglaw12_AcceptBegins k) zs = some true := fun zs _ => (begins_ev zs.1 zs.2.1 zs.2.2.1 zs.2.2.2.1).out
end Go.Proofs.Ytmkiodkkhfdlpaa.V
end
