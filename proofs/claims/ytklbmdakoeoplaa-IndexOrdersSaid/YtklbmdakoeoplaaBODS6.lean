/- What the claim ODS leans on: texts joined by bundle.py, a program of ours; the words cut down to what is used. -/
import Derived.Test.YtklbmdakoeoplaaBODS5
section
namespace Go.Proofs.Ytklbmdakoeoplaa.X
open Go.RowKit Go.Proofs.YtklbmdakoeoplaaW.PrintWords Go.Proofs.YtklbmdakoeoplaaW.PrintLast Go.Proofs.YtklbmdakoeoplaaW.PrintMore
attribute [local go_sem] max2_int min2_int max_two min_two max_three min_three max_four min_four   -- for this text's walks alone
set_option linter.unusedVariables false
set_option linter.unusedSimpArgs false
attribute [local go_sem high] eqA24
/-! ### althinglaw11_IndexOrders: function 8 -/
mutual
def althinglaw11_IndexOrders.j0 : Nat → List (S44) → Bool → Int → Int → Int → Int → Int → Int → Int → Int → List (S61) → List (S46) → Bool → Option (Bool)
 | 0, _, _, _, _, _, _, _, _, _, _, _, _, _ => none
 | k + 1, x0, x21, x624000, x624001, x625000, x625001, x625002, x625003, x625004, x625005, x625006, x625007, x625008 => if x21 = true then ((althinglaw11_awake.f k).bind fun t630 => (some t630)) else ((althinglaw11_own.f k x0).bind fun t631 => ((index_Attrs.f k t631 x624000 x624001 x625000 x625001 x625002 x625003 x625004 x625005 x625006 x625007 x625008 1 0 0 0 0 0 0 0).bind fun bt634 => (althinglaw11_IndexOrders.l0 k x0 bt634.1 x0 (x0.length : Int) 0 x624000 x624001 x625000 x625001 x625002 x625003 x625004 x625005 x625006 x625007 x625008 bt634.2.1 bt634.2.2.1 bt634.2.2.2.1 bt634.2.2.2.2.1 bt634.2.2.2.2.2.1 bt634.2.2.2.2.2.2.1 bt634.2.2.2.2.2.2.2 x624000 x624001 1 0 0 0 0 x625000 x625001 x625002 x625003 x625004 x625005 x625006 x625007 x625008 bt634.1 bt634.2.1 bt634.2.2.1 bt634.2.2.2.1 bt634.2.2.2.2.1 bt634.2.2.2.2.2.1 bt634.2.2.2.2.2.2.1 bt634.2.2.2.2.2.2.2 false)))
def althinglaw11_IndexOrders.l0 : Nat → List (S44) → Int → List (S44) → Int → Int → Int → Int → Int → Int → Int → Int → Int → Int → List (S61) → List (S46) → Bool → Int → Int → Int → Int → Int → Int → Int → Int → Int → Int → Int → Int → Int → Int → Int → Int → Int → Int → Int → Int → List (S61) → List (S46) → Bool → Int → Int → Int → Int → Int → Int → Int → Int → Bool → Option (Bool)
 | 0, _, _, _, _, _, _, _, _, _, _, _, _, _, _, _, _, _, _, _, _, _, _, _, _, _, _, _, _, _, _, _, _, _, _, _, _, _, _, _, _, _, _, _, _, _, _, _, _ => none
 | k + 1, x0, x7, x37, x38, x39, x624000, x624001, x625000, x625001, x625002, x625003, x625004, x625005, x625006, x625007, x625008, x643000, x643001, x643002, x643003, x643004, x643005, x643006, x644000, x644001, x644002, x644003, x644004, x644005, x644006, x644007, x644008, x644009, x644010, x644011, x644012, x644013, x644014, x644015, x644016, x644017, x644018, x644019, x644020, x644021, x644022, x644023, x644024 => if x39 < x38 then (if 0 ≤ x39 then (if x39 < (x37.length : Int) then ((althingref11_Last.f k x0 x39).bind fun t647 => (if t647 = true then (if (((rd_T44 x37 x39).f0.f0) == x624000 && (((rd_T44 x37 x39).f0.f1) == x624001)) = true then (althinglaw11_IndexOrders.j2 k x0 x7 x37 x38 x39 true x624000 x624001 x625000 x625001 x625002 x625003 x625004 x625005 x625006 x625007 x625008 x643000 x643001 x643002 x643003 x643004 x643005 x643006 x644000 x644001 x644002 x644003 x644004 x644005 x644006 x644007 x644008 x644009 x644010 x644011 x644012 x644013 x644014 x644015 x644016 x644017 x644018 x644019 x644020 x644021 x644022 x644023 x644024 ((rd_T44 x37 x39).f0.f0) ((rd_T44 x37 x39).f0.f1) ((rd_T44 x37 x39).f1) ((rd_T44 x37 x39).f2.f0) ((rd_T44 x37 x39).f2.f1) ((rd_T44 x37 x39).f3.f0) ((rd_T44 x37 x39).f3.f1) ((rd_T44 x37 x39).f4.f0) ((rd_T44 x37 x39).f4.f1.f0) ((rd_T44 x37 x39).f4.f1.f1) ((rd_T44 x37 x39).f4.f2.f0) ((rd_T44 x37 x39).f4.f2.f1) ((rd_T44 x37 x39).f4.f3) ((rd_T44 x37 x39).f4.f4) ((rd_T44 x37 x39).f4.f5) ((rd_T44 x37 x39).f4.f6) ((rd_T44 x37 x39).f5) ((rd_T44 x37 x39).f6.f0) ((rd_T44 x37 x39).f6.f1) ((rd_T44 x37 x39).f6.f2) ((rd_T44 x37 x39).f6.f3) ((rd_T44 x37 x39).f6.f4) ((rd_T44 x37 x39).f6.f5) ((rd_T44 x37 x39).f6.f6) ((rd_T44 x37 x39).f7)) else (if ((rd_T44 x37 x39).f1) ≤ 0 then (althinglaw11_IndexOrders.j2 k x0 x7 x37 x38 x39 true x624000 x624001 x625000 x625001 x625002 x625003 x625004 x625005 x625006 x625007 x625008 x643000 x643001 x643002 x643003 x643004 x643005 x643006 x644000 x644001 x644002 x644003 x644004 x644005 x644006 x644007 x644008 x644009 x644010 x644011 x644012 x644013 x644014 x644015 x644016 x644017 x644018 x644019 x644020 x644021 x644022 x644023 x644024 ((rd_T44 x37 x39).f0.f0) ((rd_T44 x37 x39).f0.f1) ((rd_T44 x37 x39).f1) ((rd_T44 x37 x39).f2.f0) ((rd_T44 x37 x39).f2.f1) ((rd_T44 x37 x39).f3.f0) ((rd_T44 x37 x39).f3.f1) ((rd_T44 x37 x39).f4.f0) ((rd_T44 x37 x39).f4.f1.f0) ((rd_T44 x37 x39).f4.f1.f1) ((rd_T44 x37 x39).f4.f2.f0) ((rd_T44 x37 x39).f4.f2.f1) ((rd_T44 x37 x39).f4.f3) ((rd_T44 x37 x39).f4.f4) ((rd_T44 x37 x39).f4.f5) ((rd_T44 x37 x39).f4.f6) ((rd_T44 x37 x39).f5) ((rd_T44 x37 x39).f6.f0) ((rd_T44 x37 x39).f6.f1) ((rd_T44 x37 x39).f6.f2) ((rd_T44 x37 x39).f6.f3) ((rd_T44 x37 x39).f6.f4) ((rd_T44 x37 x39).f6.f5) ((rd_T44 x37 x39).f6.f6) ((rd_T44 x37 x39).f7)) else ((althingref05_Interfere.f k ((rd_T44 x37 x39).f4.f0) ((rd_T44 x37 x39).f4.f1.f0) ((rd_T44 x37 x39).f4.f1.f1) ((rd_T44 x37 x39).f4.f2.f0) ((rd_T44 x37 x39).f4.f2.f1) ((rd_T44 x37 x39).f4.f3) ((rd_T44 x37 x39).f4.f4) ((rd_T44 x37 x39).f4.f5) ((rd_T44 x37 x39).f4.f6) x625000 x625001 x625002 x625003 x625004 x625005 x625006 x625007 x625008).bind fun t648 => (althinglaw11_IndexOrders.j2 k x0 x7 x37 x38 x39 (!t648) x624000 x624001 x625000 x625001 x625002 x625003 x625004 x625005 x625006 x625007 x625008 x643000 x643001 x643002 x643003 x643004 x643005 x643006 x644000 x644001 x644002 x644003 x644004 x644005 x644006 x644007 x644008 x644009 x644010 x644011 x644012 x644013 x644014 x644015 x644016 x644017 x644018 x644019 x644020 x644021 x644022 x644023 x644024 ((rd_T44 x37 x39).f0.f0) ((rd_T44 x37 x39).f0.f1) ((rd_T44 x37 x39).f1) ((rd_T44 x37 x39).f2.f0) ((rd_T44 x37 x39).f2.f1) ((rd_T44 x37 x39).f3.f0) ((rd_T44 x37 x39).f3.f1) ((rd_T44 x37 x39).f4.f0) ((rd_T44 x37 x39).f4.f1.f0) ((rd_T44 x37 x39).f4.f1.f1) ((rd_T44 x37 x39).f4.f2.f0) ((rd_T44 x37 x39).f4.f2.f1) ((rd_T44 x37 x39).f4.f3) ((rd_T44 x37 x39).f4.f4) ((rd_T44 x37 x39).f4.f5) ((rd_T44 x37 x39).f4.f6) ((rd_T44 x37 x39).f5) ((rd_T44 x37 x39).f6.f0) ((rd_T44 x37 x39).f6.f1) ((rd_T44 x37 x39).f6.f2) ((rd_T44 x37 x39).f6.f3) ((rd_T44 x37 x39).f6.f4) ((rd_T44 x37 x39).f6.f5) ((rd_T44 x37 x39).f6.f6) ((rd_T44 x37 x39).f7))))) else (althinglaw11_IndexOrders.j2 k x0 x7 x37 x38 x39 true x624000 x624001 x625000 x625001 x625002 x625003 x625004 x625005 x625006 x625007 x625008 x643000 x643001 x643002 x643003 x643004 x643005 x643006 x644000 x644001 x644002 x644003 x644004 x644005 x644006 x644007 x644008 x644009 x644010 x644011 x644012 x644013 x644014 x644015 x644016 x644017 x644018 x644019 x644020 x644021 x644022 x644023 x644024 ((rd_T44 x37 x39).f0.f0) ((rd_T44 x37 x39).f0.f1) ((rd_T44 x37 x39).f1) ((rd_T44 x37 x39).f2.f0) ((rd_T44 x37 x39).f2.f1) ((rd_T44 x37 x39).f3.f0) ((rd_T44 x37 x39).f3.f1) ((rd_T44 x37 x39).f4.f0) ((rd_T44 x37 x39).f4.f1.f0) ((rd_T44 x37 x39).f4.f1.f1) ((rd_T44 x37 x39).f4.f2.f0) ((rd_T44 x37 x39).f4.f2.f1) ((rd_T44 x37 x39).f4.f3) ((rd_T44 x37 x39).f4.f4) ((rd_T44 x37 x39).f4.f5) ((rd_T44 x37 x39).f4.f6) ((rd_T44 x37 x39).f5) ((rd_T44 x37 x39).f6.f0) ((rd_T44 x37 x39).f6.f1) ((rd_T44 x37 x39).f6.f2) ((rd_T44 x37 x39).f6.f3) ((rd_T44 x37 x39).f6.f4) ((rd_T44 x37 x39).f6.f5) ((rd_T44 x37 x39).f6.f6) ((rd_T44 x37 x39).f7)))) else (none)) else (none)) else ((althinglaw11_awake.f k).bind fun t644 => (some t644))
def althinglaw11_IndexOrders.j2 : Nat → List (S44) → Int → List (S44) → Int → Int → Bool → Int → Int → Int → Int → Int → Int → Int → Int → List (S61) → List (S46) → Bool → Int → Int → Int → Int → Int → Int → Int → Int → Int → Int → Int → Int → Int → Int → Int → Int → Int → Int → Int → Int → List (S61) → List (S46) → Bool → Int → Int → Int → Int → Int → Int → Int → Int → Bool → Int → Int → Int → Int → Int → Int → Int → Int → Int → Int → Int → Int → Int → List (S61) → List (S46) → Bool → Int → Int → Int → Int → Int → Int → Int → Int → Bool → Option (Bool)
 | 0, _, _, _, _, _, _, _, _, _, _, _, _, _, _, _, _, _, _, _, _, _, _, _, _, _, _, _, _, _, _, _, _, _, _, _, _, _, _, _, _, _, _, _, _, _, _, _, _, _, _, _, _, _, _, _, _, _, _, _, _, _, _, _, _, _, _, _, _, _, _, _, _, _, _ => none
 | k + 1, x0, x7, x37, x38, x39, x65, x624000, x624001, x625000, x625001, x625002, x625003, x625004, x625005, x625006, x625007, x625008, x643000, x643001, x643002, x643003, x643004, x643005, x643006, x644000, x644001, x644002, x644003, x644004, x644005, x644006, x644007, x644008, x644009, x644010, x644011, x644012, x644013, x644014, x644015, x644016, x644017, x644018, x644019, x644020, x644021, x644022, x644023, x644024, x647000, x647001, x647002, x647003, x647004, x647005, x647006, x647007, x647008, x647009, x647010, x647011, x647012, x647013, x647014, x647015, x647016, x647017, x647018, x647019, x647020, x647021, x647022, x647023, x647024 => if x65 = true then (althinglaw11_IndexOrders.l0 k x0 x7 x37 x38 (wrap64 (x39 + 1)) x624000 x624001 x625000 x625001 x625002 x625003 x625004 x625005 x625006 x625007 x625008 x643000 x643001 x643002 x643003 x643004 x643005 x643006 x644000 x644001 x644002 x644003 x644004 x644005 x644006 x644007 x644008 x644009 x644010 x644011 x644012 x644013 x644014 x644015 x644016 x644017 x644018 x644019 x644020 x644021 x644022 x644023 x644024) else (if x647000 ≥ 0 then (if x647000 ≤ 6 then (althinglaw11_IndexOrders.j3 k x0 x7 (decide (x647001 ≥ 1)) x37 x38 x39 x624000 x624001 x625000 x625001 x625002 x625003 x625004 x625005 x625006 x625007 x625008 x643000 x643001 x643002 x643003 x643004 x643005 x643006 x644000 x644001 x644002 x644003 x644004 x644005 x644006 x644007 x644008 x644009 x644010 x644011 x644012 x644013 x644014 x644015 x644016 x644017 x644018 x644019 x644020 x644021 x644022 x644023 x644024 x647000 x647001 x647002 x647003 x647004 x647005 x647006 x647007 x647008 x647009 x647010 x647011 x647012 x647013 x647014 x647015 x647016 x647017 x647018 x647019 x647020 x647021 x647022 x647023 x647024) else (althinglaw11_IndexOrders.j3 k x0 x7 false x37 x38 x39 x624000 x624001 x625000 x625001 x625002 x625003 x625004 x625005 x625006 x625007 x625008 x643000 x643001 x643002 x643003 x643004 x643005 x643006 x644000 x644001 x644002 x644003 x644004 x644005 x644006 x644007 x644008 x644009 x644010 x644011 x644012 x644013 x644014 x644015 x644016 x644017 x644018 x644019 x644020 x644021 x644022 x644023 x644024 x647000 x647001 x647002 x647003 x647004 x647005 x647006 x647007 x647008 x647009 x647010 x647011 x647012 x647013 x647014 x647015 x647016 x647017 x647018 x647019 x647020 x647021 x647022 x647023 x647024)) else (althinglaw11_IndexOrders.j3 k x0 x7 false x37 x38 x39 x624000 x624001 x625000 x625001 x625002 x625003 x625004 x625005 x625006 x625007 x625008 x643000 x643001 x643002 x643003 x643004 x643005 x643006 x644000 x644001 x644002 x644003 x644004 x644005 x644006 x644007 x644008 x644009 x644010 x644011 x644012 x644013 x644014 x644015 x644016 x644017 x644018 x644019 x644020 x644021 x644022 x644023 x644024 x647000 x647001 x647002 x647003 x647004 x647005 x647006 x647007 x647008 x647009 x647010 x647011 x647012 x647013 x647014 x647015 x647016 x647017 x647018 x647019 x647020 x647021 x647022 x647023 x647024))
def althinglaw11_IndexOrders.j3 : Nat → List (S44) → Int → Bool → List (S44) → Int → Int → Int → Int → Int → Int → Int → Int → Int → Int → List (S61) → List (S46) → Bool → Int → Int → Int → Int → Int → Int → Int → Int → Int → Int → Int → Int → Int → Int → Int → Int → Int → Int → Int → Int → List (S61) → List (S46) → Bool → Int → Int → Int → Int → Int → Int → Int → Int → Bool → Int → Int → Int → Int → Int → Int → Int → Int → Int → Int → Int → Int → Int → List (S61) → List (S46) → Bool → Int → Int → Int → Int → Int → Int → Int → Int → Bool → Option (Bool)
 | 0, _, _, _, _, _, _, _, _, _, _, _, _, _, _, _, _, _, _, _, _, _, _, _, _, _, _, _, _, _, _, _, _, _, _, _, _, _, _, _, _, _, _, _, _, _, _, _, _, _, _, _, _, _, _, _, _, _, _, _, _, _, _, _, _, _, _, _, _, _, _, _, _, _, _ => none
 | k + 1, x0, x7, x12, x37, x38, x39, x624000, x624001, x625000, x625001, x625002, x625003, x625004, x625005, x625006, x625007, x625008, x643000, x643001, x643002, x643003, x643004, x643005, x643006, x644000, x644001, x644002, x644003, x644004, x644005, x644006, x644007, x644008, x644009, x644010, x644011, x644012, x644013, x644014, x644015, x644016, x644017, x644018, x644019, x644020, x644021, x644022, x644023, x644024, x647000, x647001, x647002, x647003, x647004, x647005, x647006, x647007, x647008, x647009, x647010, x647011, x647012, x647013, x647014, x647015, x647016, x647017, x647018, x647019, x647020, x647021, x647022, x647023, x647024 => if x12 = true then ((index_Ordered.f k x644000 x644001 x644002 x644003 x644004 x644005 x644006 x644007 x644008 x644009 x644010 x644011 x644012 x644013 x644014 x644015 x644016 x644017 x644018 x644019 x644020 x644021 x644022 x644023 x644024 x647000 x647001 x647002 x647003 x647004 x647005 x647006 x647007 x647008 x647009 x647010 x647011 x647012 x647013 x647014 x647015 x647016 x647017 x647018 x647019 x647020 x647021 x647022 x647023 x647024).bind fun t649 => (if t649 = true then ((althingref03_Has.f x643000 x643001 x643002 x643003 x643004 x643005 x643006 x647000 x647001).bind fun t650 => (if t650 = true then (if x647016 < 1099511627776 then (if x7 ≤ x647016 then (none) else (althinglaw11_IndexOrders.l0 k x0 x7 x37 x38 (wrap64 (x39 + 1)) x624000 x624001 x625000 x625001 x625002 x625003 x625004 x625005 x625006 x625007 x625008 x643000 x643001 x643002 x643003 x643004 x643005 x643006 x644000 x644001 x644002 x644003 x644004 x644005 x644006 x644007 x644008 x644009 x644010 x644011 x644012 x644013 x644014 x644015 x644016 x644017 x644018 x644019 x644020 x644021 x644022 x644023 x644024)) else (althinglaw11_IndexOrders.l0 k x0 x7 x37 x38 (wrap64 (x39 + 1)) x624000 x624001 x625000 x625001 x625002 x625003 x625004 x625005 x625006 x625007 x625008 x643000 x643001 x643002 x643003 x643004 x643005 x643006 x644000 x644001 x644002 x644003 x644004 x644005 x644006 x644007 x644008 x644009 x644010 x644011 x644012 x644013 x644014 x644015 x644016 x644017 x644018 x644019 x644020 x644021 x644022 x644023 x644024)) else (none))) else (none))) else (if x647016 < 1099511627776 then (if x7 ≤ x647016 then (none) else (althinglaw11_IndexOrders.l0 k x0 x7 x37 x38 (wrap64 (x39 + 1)) x624000 x624001 x625000 x625001 x625002 x625003 x625004 x625005 x625006 x625007 x625008 x643000 x643001 x643002 x643003 x643004 x643005 x643006 x644000 x644001 x644002 x644003 x644004 x644005 x644006 x644007 x644008 x644009 x644010 x644011 x644012 x644013 x644014 x644015 x644016 x644017 x644018 x644019 x644020 x644021 x644022 x644023 x644024)) else (althinglaw11_IndexOrders.l0 k x0 x7 x37 x38 (wrap64 (x39 + 1)) x624000 x624001 x625000 x625001 x625002 x625003 x625004 x625005 x625006 x625007 x625008 x643000 x643001 x643002 x643003 x643004 x643005 x643006 x644000 x644001 x644002 x644003 x644004 x644005 x644006 x644007 x644008 x644009 x644010 x644011 x644012 x644013 x644014 x644015 x644016 x644017 x644018 x644019 x644020 x644021 x644022 x644023 x644024))
end
def althinglaw11_IndexOrders.f (k : Nat) (l0 : List (S44)) (a1_0 : Int) (a1_1 : Int) (a2_0 : Int) (a2_1 : Int) (a2_2 : Int) (a2_3 : Int) (a2_4 : Int) (a2_5 : Int) (l2_6 : List (S61)) (l2_7 : List (S46)) (a2_8 : Bool) : Option (Bool) := (althinglaw11_Few.f k l0).bind fun t625 => (if t625 = true then ((althinglaw05_Few.f k (([(⟨a2_0, (⟨a2_1, a2_2⟩ : S26), (⟨a2_3, a2_4⟩ : S28), a2_5, l2_6, l2_7, a2_8⟩ : S32)] : List (S32)))).bind fun t629 => (althinglaw11_IndexOrders.j0 k l0 (!t629) a1_0 a1_1 a2_0 a2_1 a2_2 a2_3 a2_4 a2_5 l2_6 l2_7 a2_8)) else (althinglaw11_IndexOrders.j0 k l0 true a1_0 a1_1 a2_0 a2_1 a2_2 a2_3 a2_4 a2_5 l2_6 l2_7 a2_8))
def althinglaw11_IndexOrders.T3 : Bool × List (List Nat × List Nat) := (true, [([], []), ([0], [0]), ([], []), ([], []), ([], []), ([1, 2, 3, 4, 1], [1, 2, 3, 4]), ([5], [5]), ([6], [6]), ([6], [6]), ([], []), ([7, 5, 0, 1, 2, 3, 4, 5, 6, 7, 9], [7]), ([9, 8, 10, 0, 1, 2, 3, 4, 5, 6, 7, 8, 9, 10], [8, 9])])
def althinglaw11_IndexOrders.B3 : List Nat := [0, 1, 0, 0, 0, 31, 63, 127, 127, 0, 767, 2047]
theorem althinglaw11_IndexOrders.tab3 : rtab .any (opsOf Try.f8 3) = althinglaw11_IndexOrders.T3 := by kernel_rfl
theorem althinglaw11_IndexOrders.bits3 : waitsOk althinglaw11_IndexOrders.T3.2 althinglaw11_IndexOrders.B3 = true := by kernel_rfl
set_option maxHeartbeats 8000000 in
set_option maxRecDepth 100000 in
theorem althinglaw11_IndexOrders.calls (k : Nat) (A0 : Option Addr) (c0 : Nat) (l0 : List (S44)) (a1_0 : Int) (a1_1 : Int) (a2_0 : Int) (a2_1 : Int) (a2_2 : Int) (a2_3 : Int) (a2_4 : Int) (a2_5 : Int) (P2_6_ : Nat → Prop) (A2_6 : Option Addr) (c2_6 : Nat) (l2_6 : List (S61)) (P2_7_ : Nat → Prop) (A2_7 : Option Addr) (c2_7 : Nat) (l2_7 : List (S46)) (a2_8 : Bool) (r : Bool) (w : World) (hr0 : Kd.C k44 w A0 l0.length l0) (hc0 : l0.length ≤ c0) (hs2_6 : Kd.V k61 61 w w.heap.size (fun k_ => P2_6_ k_) (.slice A2_6 l2_6.length c2_6) l2_6) (hs2_7 : Kd.V k46 46 w w.heap.size (fun k_ => P2_7_ k_) (.slice A2_7 l2_7.length c2_7) l2_7) (h : althinglaw11_IndexOrders.f k l0 a1_0 a1_1 a2_0 a2_1 a2_2 a2_3 a2_4 a2_5 l2_6 l2_7 a2_8 = some r) :
 Calls Try.prog 8 #[.slice A0 l0.length c0, .agg #[.int .i64 a1_0, .int .i64 a1_1], .agg #[.int .i64 a2_0, .int .i64 a2_1, .int .i64 a2_2, .int .i64 a2_3, .int .i64 a2_4, .int .i64 a2_5, .slice A2_6 l2_6.length c2_6, .slice A2_7 l2_7.length c2_7, .bool a2_8]] w fun e w' => e = .returned (.bool r) ∧ Below w.heap.size w w' := by
 have hu24 := Try.underlying24
 have hu32 := Try.underlying32
 have hu42 := Try.underlying42
 have hu44 := Try.underlying44
 have HR0 := Aside0.mk hr0
 have HC0 := Aside0.mk hc0
 clear hr0 hc0
 have HO2_6 := Aside0.mk (show Kd.V k61 61 w w.heap.size (fun k_ => ((P2_6_ k_ ∨ P2_7_ k_) ∨ w.heap.size ≤ k_)) (.slice A2_6 l2_6.length c2_6) l2_6 from Kd.V_mono hs2_6 (fun k_ hk => .inl (.inl hk)))
 have HO2_7 := Aside0.mk (show Kd.V k46 46 w w.heap.size (fun k_ => ((P2_6_ k_ ∨ P2_7_ k_) ∨ w.heap.size ≤ k_)) (.slice A2_7 l2_7.length c2_7) l2_7 from Kd.V_mono hs2_7 (fun k_ hk => .inl (.inr hk)))
 have HB := Aside0.mk (Below.refl w.heap.size w)
 have H : ((althinglaw11_Few.f k l0).bind fun t625 => (if t625 = true then ((althinglaw05_Few.f k (([(⟨a2_0, (⟨a2_1, a2_2⟩ : S26), (⟨a2_3, a2_4⟩ : S28), a2_5, l2_6, l2_7, a2_8⟩ : S32)] : List (S32)))).bind fun t629 => (althinglaw11_IndexOrders.j0 k l0 (!t629) a1_0 a1_1 a2_0 a2_1 a2_2 a2_3 a2_4 a2_5 l2_6 l2_7 a2_8)) else (althinglaw11_IndexOrders.j0 k l0 true a1_0 a1_1 a2_0 a2_1 a2_2 a2_3 a2_4 a2_5 l2_6 l2_7 a2_8))) = some r := h
 clear h
 have HC4 := Aside0.mk H
 clear H
 go_enter Try.func8, Try.ntmps8
 go_upto_region 1 with (first | ((with_reducible refine gate_dst (N := 4) rfl ?_); (try (refine gate_guard (by rfl) ?_; dsimp only)); refine box_event ?hg (N := 4) ?hd (cs := #[.int .i64 a1_0, .int .i64 a1_1]) (t := 24) ?hr ?_; (case hd => rfl); (case hg => rfl); (case hr => first | (go_simp; done) | (go_simp; rfl)); intro gb623 hg w5 hbox hb; have n0_ := Aside0.mk (Kd.V_below (Kd.V_elderB (kv_ HO2_6.out) gb623 (Nat.le_of_eq hg.symm)) hb); have n1_ := Aside0.mk (Kd.V_below (Kd.V_elderB (kv_ HO2_7.out) gb623 (Nat.le_of_eq hg.symm)) hb); have n2_ := Aside0.mk (below_step lb_ hb); have n3_ := Aside0.mk (hbox); have n4_ := Aside0.mk ((by rw [hg]; exact (below_size lb_) : w.heap.size ≤ gb623)); have n5_ := Aside0.mk ((by rw [hg]; exact (below_size lb_) : w.heap.size ≤ gb623)); clear HO2_6; clear HO2_7; clear HB; have HO2_6 := n0_; have HO2_7 := n1_; have HB := n2_; have BK623 := n3_; have GW623 := n4_; have GE623 := n5_; clear n0_ n1_ n2_ n3_ n4_ n5_; clear hb hbox hg) | ((with_reducible refine gate_dst (N := 5) rfl ?_); (try (refine gate_guard (by rfl) ?_; dsimp only)); refine box_event ?hg (N := 5) ?hd (cs := #[.int .i64 a2_0, .int .i64 a2_1, .int .i64 a2_2, .int .i64 a2_3, .int .i64 a2_4, .int .i64 a2_5, .slice A2_6 l2_6.length c2_6, .slice A2_7 l2_7.length c2_7, .bool a2_8]) (t := 32) ?hr ?_; (case hd => rfl); (case hg => rfl); (case hr => first | (go_simp; done) | (go_simp; rfl)); intro gb624 hg w6 hbox hb; have n0_ := Aside0.mk (Kd.V_below (Kd.V_elderB (kv_ HO2_6.out) gb624 (Nat.le_of_eq hg.symm)) hb); have n1_ := Aside0.mk (Kd.V_below (Kd.V_elderB (kv_ HO2_7.out) gb624 (Nat.le_of_eq hg.symm)) hb); have n2_ := Aside0.mk (blk_below (kb_ BK623.out) hb); have n3_ := Aside0.mk (below_step (by repeat (first | (with_reducible first | exact HB.out | apply below_alloc | apply pw_below_drewN | apply below_drew1 | refine below_set ?_ GE623.out) | exact HB.out)) hb); have n4_ := Aside0.mk (hbox); have n5_ := Aside0.mk ((by rw [hg]; exact (below_size (by repeat (first | (with_reducible first | exact HB.out | apply below_alloc | apply pw_below_drewN | apply below_drew1 | refine below_set ?_ GE623.out) | exact HB.out))) : w.heap.size ≤ gb624)); have n6_ := Aside0.mk ((by rw [hg]; exact (below_size (by repeat (first | (with_reducible first | exact HB.out | apply below_alloc | apply pw_below_drewN | apply below_drew1 | refine below_set ?_ GE623.out) | exact HB.out))) : w.heap.size ≤ gb624)); have n7_ := Aside0.mk ((by rw [hg]; exact Nat.ne_of_lt (blk_lt (kb_ BK623.out)) : gb623 ≠ gb624)); have n8_ := Aside0.mk ((by rw [hg]; exact Nat.ne_of_gt (blk_lt (kb_ BK623.out)) : gb624 ≠ gb623)); clear HO2_6; clear HO2_7; clear BK623; clear HB; have HO2_6 := n0_; have HO2_7 := n1_; have BK623 := n2_; have HB := n3_; have BK624 := n4_; have GW624 := n5_; have GE624 := n6_; have NB623_624 := n7_; have NB624_623 := n8_; clear n0_ n1_ n2_ n3_ n4_ n5_ n6_ n7_ n8_; clear hb hbox hg))
 (try simp only [Act.put, List.setIfInBounds_toArray, List.set_cons_zero, List.set_cons_succ])
 go_cut [21] (fun v21 wc => ∃ (kq : Nat) (x21_3 : Bool), v21 = .bool x21_3 ∧ Aside0 (althinglaw11_IndexOrders.j0 kq l0 x21_3 a1_0 a1_1 a2_0 a2_1 a2_2 a2_3 a2_4 a2_5 l2_6 l2_7 a2_8 = some r) ∧ Aside0 (kq ≤ k) ∧ Aside0 (Kd.V k61 61 wc w.heap.size (fun k_ => ((P2_6_ k_ ∨ P2_7_ k_) ∨ w.heap.size ≤ k_) ∧ k_ ≠ gb623 ∧ k_ ≠ gb624) (.slice A2_6 l2_6.length c2_6) l2_6) ∧ Aside0 (Kd.V k46 46 wc w.heap.size (fun k_ => ((P2_6_ k_ ∨ P2_7_ k_) ∨ w.heap.size ≤ k_) ∧ k_ ≠ gb623 ∧ k_ ≠ gb624) (.slice A2_7 l2_7.length c2_7) l2_7) ∧ Aside0 (wc.heap[gb623]? = some (.cells #[.int .i64 a1_0, .int .i64 a1_1] 24 (0, 0))) ∧ Aside0 (wc.heap[gb624]? = some (.cells #[.int .i64 a2_0, .int .i64 a2_1, .int .i64 a2_2, .int .i64 a2_3, .int .i64 a2_4, .int .i64 a2_5, (.slice A2_6 l2_6.length c2_6), (.slice A2_7 l2_7.length c2_7), .bool a2_8] 32 (0, 0))) ∧ Aside0 (Below w.heap.size w wc))
 case first =>
  have H := HC4.out
  clear HC4
  obtain ⟨t625, A7, H⟩ := bs_ H
  by_cases c8 : t625 = true
  · subst c8
    rw [if_pos rfl] at H
    obtain ⟨y626, hy626⟩ : ∃ y_ : List (S32), y_ = (([(⟨a2_0, (⟨a2_1, a2_2⟩ : S26), (⟨a2_3, a2_4⟩ : S28), a2_5, l2_6, l2_7, a2_8⟩ : S32)] : List (S32))) := ⟨_, rfl⟩
    replace H : ((althinglaw05_Few.f k y626).bind fun t629 => (althinglaw11_IndexOrders.j0 k l0 (!t629) a1_0 a1_1 a2_0 a2_1 a2_2 a2_3 a2_4 a2_5 l2_6 l2_7 a2_8)) = some r := by first | (rw [hy626]; with_reducible exact H) | (have H2_ := (Option.bind_some _ _).symm.trans H; rw [hy626]; with_reducible exact H2_) | (have H2_ := (Option.bind_some _ _).symm.trans H; with_reducible exact H2_) | with_reducible exact H | (rw [hy626]; exact H) | exact H
    have Ny626 := Aside0.mk hy626
    clear hy626
    obtain ⟨t629, A9, H⟩ := bs_ H
    have H' := Aside0.mk H
    clear H
    go_wp2_with (first | ((with_reducible refine gate_callee (f := 10) rfl ?_); refine goesL_ (some 14) rfl rfl Try.func10 (by kernel_rfl) rfl #[.slice A0 l0.length c0] rfl (by (try simp only [List.map_toArray, List.map_cons, List.map_nil]); first | done | rfl | (simp only [List.length_drop, List.length_take]; rfl)) ?_; (with_reducible refine (althinglaw11_Few.calls k (fun k_ => k_ < w.heap.size) _ _ l0 true _ ?side1 A7.out).mono ?_); (case side1 => exact Kd.V_mk HC0.out (Kd.F_below (Kd.C_F k44_heap HR0.out) (by repeat (first | (with_reducible first | exact HB.out | apply below_alloc | apply pw_below_drewN | apply below_drew1 | refine below_set ?_ GE623.out | refine below_set ?_ GE624.out) | exact HB.out)))); rintro e w10 ⟨rfl, hb⟩; refine ⟨_, rfl, ?_⟩; have n0_ := Aside0.mk (Kd.V_below (kv_ HO2_6.out) hb); have n1_ := Aside0.mk (Kd.V_below (kv_ HO2_7.out) hb); have n2_ := Aside0.mk (blk_below (kb_ BK623.out) hb); have n3_ := Aside0.mk (blk_below (kb_ BK624.out) hb); have n4_ := Aside0.mk (below_step (by repeat (first | (with_reducible first | exact HB.out | apply below_alloc | apply pw_below_drewN | apply below_drew1 | refine below_set ?_ GE623.out | refine below_set ?_ GE624.out) | exact HB.out)) hb); clear HO2_6; clear HO2_7; clear BK623; clear BK624; clear HB; have HO2_6 := n0_; have HO2_7 := n1_; have BK623 := n2_; have BK624 := n3_; have HB := n4_; clear n0_ n1_ n2_ n3_ n4_; (try clear hb); (try clear hb2); (try clear hk); (try clear hi)) | ((with_reducible refine gate_dst (N := 17) rfl ?_); (try (refine gate_guard (by rfl) ?_; dsimp only)); refine blk_load_event ?lg (N := 17) ?ld (t := 32) (x := ?lxxz11) ?lo (g := gb624) ?lx (cs := _) BK624.out ?lD ?lt ?_; (case lg => rfl); (case ld => rfl); (case lo => rfl); (case lx => first | rfl | (go_simp; done) | (go_simp; rfl)); (case lD => exact ⟨_, Try.underlying32, rfl⟩); (case lt => kernel_rfl)) | ((with_reducible refine gate_dst (N := 18) rfl ?_); (try (refine gate_guard (by rfl) ?_; dsimp only)); refine Kd.N_lit k32 _ 32 ?hg (N' := 18) ?hd (xs := ([(⟨a2_0, (⟨a2_1, a2_2⟩ : S26), (⟨a2_3, a2_4⟩ : S28), a2_5, l2_6, l2_7, a2_8⟩ : S32)] : List (S32))) (inner := [.int .i64 a2_0, .int .i64 a2_1, .int .i64 a2_2, .int .i64 a2_3, .int .i64 a2_4, .int .i64 a2_5, .slice A2_6 l2_6.length c2_6, .slice A2_7 l2_7.length c2_7, .bool a2_8]) (ok := (fun k_ => ((P2_6_ k_ ∨ P2_7_ k_) ∨ w.heap.size ≤ k_) ∧ k_ ≠ gb623 ∧ k_ ≠ gb624)) (okp := (fun k_ => ((P2_6_ k_ ∨ P2_7_ k_) ∨ w.heap.size ≤ k_) ∧ k_ ≠ gb623 ∧ k_ ≠ gb624)) ?hr ?hp (fun _ hk => hk) ((show ∀ k_, w10.heap.size ≤ k_ → (fun k_ => ((P2_6_ k_ ∨ P2_7_ k_) ∨ w.heap.size ≤ k_) ∧ k_ ≠ gb623 ∧ k_ ≠ gb624) k_ from fun k_ hk => ⟨(.inr (Nat.le_trans (below_size (by repeat (first | (with_reducible first | exact HB.out | apply below_alloc | apply pw_below_drewN | apply below_drew1 | refine below_set ?_ GE623.out | refine below_set ?_ GE624.out) | exact HB.out))) hk)), Kd.freshB (g := gb623) (o := .cells #[.int .i64 a1_0, .int .i64 a1_1] 24 (0, 0)) (kb_ BK623.out) k_ hk, Kd.freshB (g := gb624) (o := .cells #[.int .i64 a2_0, .int .i64 a2_1, .int .i64 a2_2, .int .i64 a2_3, .int .i64 a2_4, .int .i64 a2_5, .slice A2_6 l2_6.length c2_6, .slice A2_7 l2_7.length c2_7, .bool a2_8] 32 (0, 0)) (kb_ BK624.out) k_ hk⟩) _ (Nat.le_refl _)) (Below.refl _ _) (Nat.le_refl _) (by simp) ?_; (case hd => rfl); (case hg => rfl); (case hr => first | (go_simp; done) | (go_simp; rfl)); (case hp => exact (Reps.c9 (show Kd.FK k32 _ _ (⟨a2_0, (⟨a2_1, a2_2⟩ : S26), (⟨a2_3, a2_4⟩ : S28), a2_5, l2_6, l2_7, a2_8⟩ : S32) [.int .i64 a2_0, .int .i64 a2_1, .int .i64 a2_2, .int .i64 a2_3, .int .i64 a2_4, .int .i64 a2_5, .slice A2_6 l2_6.length c2_6, .slice A2_7 l2_7.length c2_7, .bool a2_8] from (k32_mkF _ _ (⟨a2_0, (⟨a2_1, a2_2⟩ : S26), (⟨a2_3, a2_4⟩ : S28), a2_5, l2_6, l2_7, a2_8⟩ : S32) (Kd.V_reads' (Kd.V_mono (ok' := (fun k_ => ((P2_6_ k_ ∨ P2_7_ k_) ∨ w.heap.size ≤ k_) ∧ k_ ≠ gb623 ∧ k_ ≠ gb624)) (HO2_6.out) (fun k_ hk => ⟨hk.1.1, ⟨hk.1.2, hk.2⟩⟩))).2.1 (Kd.V_F (Kd.V_mono (ok' := (fun k_ => ((P2_6_ k_ ∨ P2_7_ k_) ∨ w.heap.size ≤ k_) ∧ k_ ≠ gb623 ∧ k_ ≠ gb624)) (HO2_6.out) (fun k_ hk => ⟨hk.1.1, ⟨hk.1.2, hk.2⟩⟩))) (Kd.V_reads' (Kd.V_mono (ok' := (fun k_ => ((P2_6_ k_ ∨ P2_7_ k_) ∨ w.heap.size ≤ k_) ∧ k_ ≠ gb623 ∧ k_ ≠ gb624)) (HO2_7.out) (fun k_ hk => ⟨hk.1.1, ⟨hk.1.2, hk.2⟩⟩))).2.1 (Kd.V_F (Kd.V_mono (ok' := (fun k_ => ((P2_6_ k_ ∨ P2_7_ k_) ∨ w.heap.size ≤ k_) ∧ k_ ≠ gb623 ∧ k_ ≠ gb624)) (HO2_7.out) (fun k_ hk => ⟨hk.1.1, ⟨hk.1.2, hk.2⟩⟩))))) (Reps.none _ _))); intro v627 w12 ho13 hb hg_ hnew_; clear hg_ hnew_; (first | rw [← Ny626.out] at ho13 | (simp only [Int.reduceToNat] at ho13; rw [← Ny626.out] at ho13)); have n0_ := Aside0.mk (Kd.V_elder' (kv_ HO2_6.out) (Kd.N_base ho13) hb); have n1_ := Aside0.mk (Kd.V_elder' (kv_ HO2_7.out) (Kd.N_base ho13) hb); have n2_ := Aside0.mk (Kd.N_lower ho13 (below_size (by repeat (first | (with_reducible first | exact HB.out | apply below_alloc | apply pw_below_drewN | apply below_drew1 | refine below_set ?_ GE623.out | refine below_set ?_ GE624.out) | exact HB.out)))); have n3_ := Aside0.mk (blk_below (kb_ BK623.out) hb); have n4_ := Aside0.mk (blk_below (kb_ BK624.out) hb); have n5_ := Aside0.mk (below_step (by repeat (first | (with_reducible first | exact HB.out | apply below_alloc | apply pw_below_drewN | apply below_drew1 | refine below_set ?_ GE623.out | refine below_set ?_ GE624.out) | exact HB.out)) hb); clear HO2_6; clear HO2_7; clear BK623; clear BK624; clear HB; have HO2_6 := n0_; have HO2_7 := n1_; have HO628 := n2_; have BK623 := n3_; have BK624 := n4_; have HB := n5_; clear n0_ n1_ n2_ n3_ n4_ n5_; clear hb ho13; obtain ⟨Ao14, co14, eo14⟩ := Kd.N_slice HO628.out; subst eo14) | (go_at_call 11; (with_reducible refine (althinglaw05_Few.calls k _ _ y626 t629 _ ?side1 ?side2 A9.out).mono ?_); (case side1 => repeat (first | exact (Kd.N_reads' HO628.out).2.2 | (with_reducible refine Kd.C_alloc ?_ _) | (with_reducible refine Kd.C_drewN ?_ _) | (with_reducible refine Kd.C_drew ?_))); (case side2 => exact (Kd.N_reads' HO628.out).2.1); rintro e w15 ⟨rfl, hb⟩; have n0_ := Aside0.mk (Kd.V_below (kv_ HO2_6.out) hb); have n1_ := Aside0.mk (Kd.V_below (kv_ HO2_7.out) hb); have n2_ := Aside0.mk (Kd.N_below (kn_ HO628.out) hb); have n3_ := Aside0.mk (blk_below (kb_ BK623.out) hb); have n4_ := Aside0.mk (blk_below (kb_ BK624.out) hb); have n5_ := Aside0.mk (below_step (by repeat (first | (with_reducible first | exact HB.out | apply below_alloc | apply pw_below_drewN | apply below_drew1 | refine below_set ?_ GE623.out | refine below_set ?_ GE624.out) | exact HB.out)) hb); clear HO2_6; clear HO2_7; clear HO628; clear BK623; clear BK624; clear HB; have HO2_6 := n0_; have HO2_7 := n1_; have HO628 := n2_; have BK623 := n3_; have BK624 := n4_; have HB := n5_; clear n0_ n1_ n2_ n3_ n4_ n5_; (try clear hb); (try clear hb2); (try clear hk); (try clear hi)))
    go_meet
    case rel => exact ⟨_, (!t629), (by first | rfl | (simp; done) | (simp [*]; done)), H', ⟨by first | omega | exact Nat.le_refl _⟩, ⟨by (with_reducible repeat (first | apply Kd.V_alloc | apply Kd.V_drewN | apply Kd.V_drew)); exact Kd.V_mono HO2_6.out (fun _ hk => ⟨hk.1.1.1, ⟨hk.1.1.2, hk.1.2⟩⟩)⟩, ⟨by (with_reducible repeat (first | apply Kd.V_alloc | apply Kd.V_drewN | apply Kd.V_drew)); exact Kd.V_mono HO2_7.out (fun _ hk => ⟨hk.1.1.1, ⟨hk.1.1.2, hk.1.2⟩⟩)⟩, ⟨by (with_reducible repeat (first | refine blk_drewN ?_ _ | refine blk_drew ?_ | refine blk_alloc ?_ _)); exact BK623.out⟩, ⟨by (with_reducible repeat (first | refine blk_drewN ?_ _ | refine blk_drew ?_ | refine blk_alloc ?_ _)); exact BK624.out⟩, ⟨by repeat (first | (with_reducible first | exact HB.out | apply below_alloc | apply pw_below_drewN | apply below_drew1 | refine below_set ?_ GE623.out | refine below_set ?_ GE624.out) | exact HB.out)⟩⟩
  · replace c8 := Bool.eq_false_iff.mpr c8
    subst c8
    rw [if_neg (show ¬ (false = true) by decide)] at H
    have H' := Aside0.mk H
    clear H
    go_wp2_with (first | ((with_reducible refine gate_callee (f := 10) rfl ?_); refine goesL_ (some 14) rfl rfl Try.func10 (by kernel_rfl) rfl #[.slice A0 l0.length c0] rfl (by (try simp only [List.map_toArray, List.map_cons, List.map_nil]); first | done | rfl | (simp only [List.length_drop, List.length_take]; rfl)) ?_; (with_reducible refine (althinglaw11_Few.calls k (fun k_ => k_ < w.heap.size) _ _ l0 false _ ?side1 A7.out).mono ?_); (case side1 => exact Kd.V_mk HC0.out (Kd.F_below (Kd.C_F k44_heap HR0.out) (by repeat (first | (with_reducible first | exact HB.out | apply below_alloc | apply pw_below_drewN | apply below_drew1 | refine below_set ?_ GE623.out | refine below_set ?_ GE624.out) | exact HB.out)))); rintro e w16 ⟨rfl, hb⟩; refine ⟨_, rfl, ?_⟩; have n0_ := Aside0.mk (Kd.V_below (kv_ HO2_6.out) hb); have n1_ := Aside0.mk (Kd.V_below (kv_ HO2_7.out) hb); have n2_ := Aside0.mk (blk_below (kb_ BK623.out) hb); have n3_ := Aside0.mk (blk_below (kb_ BK624.out) hb); have n4_ := Aside0.mk (below_step (by repeat (first | (with_reducible first | exact HB.out | apply below_alloc | apply pw_below_drewN | apply below_drew1 | refine below_set ?_ GE623.out | refine below_set ?_ GE624.out) | exact HB.out)) hb); clear HO2_6; clear HO2_7; clear BK623; clear BK624; clear HB; have HO2_6 := n0_; have HO2_7 := n1_; have BK623 := n2_; have BK624 := n3_; have HB := n4_; clear n0_ n1_ n2_ n3_ n4_; (try clear hb); (try clear hb2); (try clear hk); (try clear hi)))
    go_meet
    case rel => exact ⟨_, (true), (by first | rfl | (simp; done) | (simp [*]; done)), H', ⟨by first | omega | exact Nat.le_refl _⟩, ⟨by (with_reducible repeat (first | apply Kd.V_alloc | apply Kd.V_drewN | apply Kd.V_drew)); exact Kd.V_mono HO2_6.out (fun _ hk => ⟨hk.1.1, ⟨hk.1.2, hk.2⟩⟩)⟩, ⟨by (with_reducible repeat (first | apply Kd.V_alloc | apply Kd.V_drewN | apply Kd.V_drew)); exact Kd.V_mono HO2_7.out (fun _ hk => ⟨hk.1.1, ⟨hk.1.2, hk.2⟩⟩)⟩, ⟨by (with_reducible repeat (first | refine blk_drewN ?_ _ | refine blk_drew ?_ | refine blk_alloc ?_ _)); exact BK623.out⟩, ⟨by (with_reducible repeat (first | refine blk_drewN ?_ _ | refine blk_drew ?_ | refine blk_alloc ?_ _)); exact BK624.out⟩, ⟨by repeat (first | (with_reducible first | exact HB.out | apply below_alloc | apply pw_below_drewN | apply below_drew1 | refine below_set ?_ GE623.out | refine below_set ?_ GE624.out) | exact HB.out)⟩⟩
 case rest =>
  clear HC4
  try clear c1
  try clear c2
  try clear p2
  try clear c8
  try clear c9
  try clear c10
  obtain ⟨kq, x21_3, rfl, HA, HJ3, HO_625006, HO_625007, BK623, BK624, HB⟩ := hcut
  cases kq with
  | zero => exact absurd HA.out (by simp [althinglaw11_IndexOrders.j0])
  | succ kj3 =>
   have H := HA.out
   clear HA
   simp only [althinglaw11_IndexOrders.j0] at H
   by_cases c17 : x21_3 = true
   · subst c17
     rw [if_pos rfl] at H
     obtain ⟨t630, A18, H⟩ := bs_ H
     obtain rfl := Option.some.inj H
     go_wp2_with (first | ((with_reducible refine gate_callee (f := 12) rfl ?_); refine goesL_ (some 22) rfl rfl Try.func12 (by kernel_rfl) rfl #[] rfl (by (try simp only [List.map_toArray, List.map_cons, List.map_nil]); first | done | rfl | (simp only [List.length_drop, List.length_take]; rfl)) ?_; (with_reducible refine (althinglaw11_awake.calls kj3  t630 _ A18.out).mono ?_); rintro e w19 ⟨rfl, hb⟩; refine ⟨_, rfl, ?_⟩; have n0_ := Aside0.mk (Kd.V_below (kv_ HO_625006.out) hb); have n1_ := Aside0.mk (Kd.V_below (kv_ HO_625007.out) hb); have n2_ := Aside0.mk (blk_below (kb_ BK623.out) hb); have n3_ := Aside0.mk (blk_below (kb_ BK624.out) hb); have n4_ := Aside0.mk (below_step (by repeat (first | (with_reducible first | exact HB.out | apply below_alloc | apply pw_below_drewN | apply below_drew1 | refine below_set ?_ GE623.out | refine below_set ?_ GE624.out) | exact HB.out)) hb); clear HO_625006; clear HO_625007; clear BK623; clear BK624; clear HB; have HO_625006 := n0_; have HO_625007 := n1_; have BK623 := n2_; have BK624 := n3_; have HB := n4_; clear n0_ n1_ n2_ n3_ n4_; (try clear hb); (try clear hb2); (try clear hk); (try clear hi)))
     go_ret
     exact ⟨by first | rfl | (simp [errW_none, errW_some] <;> rfl) | (simp [*, errW_none, errW_some] <;> rfl), by repeat (first | (with_reducible first | exact HB.out | apply below_alloc | apply pw_below_drewN | apply below_drew1 | refine below_set ?_ GE623.out | refine below_set ?_ GE624.out) | exact HB.out)⟩
   · replace c17 := Bool.eq_false_iff.mpr c17
     subst c17
     rw [if_neg (show ¬ (false = true) by decide)] at H
     obtain ⟨t631, A20, H⟩ := bs_ H
     replace H := Option.bind_eq_some_iff.mp H
     obtain ⟨⟨t634, t635, t636, t637, t638, t639, t640, t641⟩, A210, H⟩ := H
     replace H : (althinglaw11_IndexOrders.l0 kj3 l0 t634 l0 (l0.length : Int) 0 a1_0 a1_1 a2_0 a2_1 a2_2 a2_3 a2_4 a2_5 l2_6 l2_7 a2_8 t635 t636 t637 t638 t639 t640 t641 a1_0 a1_1 1 0 0 0 0 a2_0 a2_1 a2_2 a2_3 a2_4 a2_5 l2_6 l2_7 a2_8 t634 t635 t636 t637 t638 t639 t640 t641 false) = some r := H
     have A21 := Aside0.mk A210
     clear A210
     have H' := Aside0.mk H
     clear H
     try go_wp2
     have n0_ := Aside0.mk (Kd.V_drew HO_625006.out)
     have n1_ := Aside0.mk (Kd.V_drew HO_625007.out)
     have n2_ := Aside0.mk (blk_drew BK623.out)
     have n3_ := Aside0.mk (blk_drew BK624.out)
     have n4_ := Aside0.mk (below_drew1 HB.out)
     clear HO_625006
     clear HO_625007
     clear BK623
     clear BK624
     clear HB
     have HO_625006 := n0_
     have HO_625007 := n1_
     have BK623 := n2_
     have BK624 := n3_
     have HB := n4_
     clear n0_ n1_ n2_ n3_ n4_
     refine start_ (n := 12) (S := fun w' => w'.cell? ⟨gb623, 0, none⟩ = some (.int .i64 a1_0) ∧ w'.cell? ⟨gb623, 1, none⟩ = some (.int .i64 a1_1) ∧ w'.cell? ⟨gb624, 0, none⟩ = some (.int .i64 a2_0) ∧ w'.cell? ⟨gb624, 1, none⟩ = some (.int .i64 a2_1) ∧ w'.cell? ⟨gb624, 2, none⟩ = some (.int .i64 a2_2) ∧ w'.cell? ⟨gb624, 3, none⟩ = some (.int .i64 a2_3) ∧ w'.cell? ⟨gb624, 4, none⟩ = some (.int .i64 a2_4) ∧ w'.cell? ⟨gb624, 5, none⟩ = some (.int .i64 a2_5) ∧ w'.cell? ⟨gb624, 6, none⟩ = some (.slice A2_6 l2_6.length c2_6) ∧ w'.cell? ⟨gb624, 7, none⟩ = some (.slice A2_7 l2_7.length c2_7) ∧ w'.cell? ⟨gb624, 8, none⟩ = some (.bool a2_8)) (ds := []) #[false, false, false, false, false, false, false, false, false, false, false, false] (by kernel_rfl) rfl rfl ⟨(blk_cell BK623.out 0).trans rfl, (blk_cell BK623.out 1).trans rfl, (blk_cell BK624.out 0).trans rfl, (blk_cell BK624.out 1).trans rfl, (blk_cell BK624.out 2).trans rfl, (blk_cell BK624.out 3).trans rfl, (blk_cell BK624.out 4).trans rfl, (blk_cell BK624.out 5).trans rfl, (blk_cell BK624.out 6).trans rfl, (blk_cell BK624.out 7).trans rfl, (blk_cell BK624.out 8).trans rfl⟩ (fun hHeld => ?_); refine with_tabW althinglaw11_IndexOrders.tab3 althinglaw11_IndexOrders.bits3 (fun HT_ HW_ => ?_)
     generalize wc.drew = w22 at HO_625006 HO_625007 BK623 BK624 HB hHeld ⊢
     refine pure_ (i := 0) (N := some 24) (v := ?_) (a' := ?_) #[true, false, false, false, false, false, false, false, false, false, false, false] rfl rfl (any_of HT_.out (by kernel_rfl)) (fun _ _ _ h => h) (Or.inl ⟨by rfl, ?_⟩) ?_ ?_
     rotate_left
     · intro w'
       go_simp
       with_reducible rfl
     rotate_left
     · simp only [Act.put, List.setIfInBounds_toArray, List.set_cons_zero, List.set_cons_succ, i64_w, i32_w]
       rfl
     refine pure_ (i := 4) (N := some 28) (v := ?_) (a' := ?_) #[true, false, false, false, true, false, false, false, false, false, false, false] rfl rfl (any_of HT_.out (by kernel_rfl)) (fun _ _ _ h => h) (Or.inl ⟨by rfl, ?_⟩) ?_ ?_
     rotate_left
     · intro w'
       go_simp
       with_reducible rfl
     rotate_left
     · simp only [Act.put, List.setIfInBounds_toArray, List.set_cons_zero, List.set_cons_succ, i64_w, i32_w]
       rfl
     refine take_ (i := 2) (N := some 26) (v := ?_) (a' := ?_) #[true, false, true, false, true, false, false, false, false, false, false, false] rfl rfl (take_ofW HT_.out HW_.out (by kernel_rfl)) (fun _ _ _ h => h) (Or.inl ⟨by rfl, ?_⟩) hHeld ?_ ?_
     rotate_left
     · rintro w' ⟨s0, s1, s2, s3, s4, s5, s6, s7, s8, s9, s10⟩
       go_simp
       with_reducible rfl
     rotate_left
     · simp only [Act.put, List.setIfInBounds_toArray, List.set_cons_zero, List.set_cons_succ, i64_w, i32_w]
       rfl
     refine take_ (i := 3) (N := some 27) (v := ?_) (a' := ?_) #[true, false, true, true, true, false, false, false, false, false, false, false] rfl rfl (take_ofW HT_.out HW_.out (by kernel_rfl)) (fun _ _ _ h => h) (Or.inl ⟨by rfl, ?_⟩) hHeld ?_ ?_
     rotate_left
     · rintro w' ⟨s0, s1, s2, s3, s4, s5, s6, s7, s8, s9, s10⟩
       go_simp
       with_reducible rfl
     rotate_left
     · simp only [Act.put, List.setIfInBounds_toArray, List.set_cons_zero, List.set_cons_succ, i64_w, i32_w]
       rfl
     refine join_ (σ := Value × Nat) 2 #[true, true, true, true, true, true, true, true, true, true, false, false] (fun s_ => [(25, s_.1), (29, .tuple #[.int .i64 t634, .agg #[.int .i64 t635, .int .i64 t636, .int .i64 t637, .int .i64 t638, .int .i64 t639, .int .i64 t640, .int .i64 t641]]), (8, .pointer (some ⟨s_.2, 0, none⟩)), (23, .tuple #[.int .i64 t634, .agg #[.int .i64 t635, .int .i64 t636, .int .i64 t637, .int .i64 t638, .int .i64 t639, .int .i64 t640, .int .i64 t641]]), (30, .int .i64 t634), (31, .agg #[.int .i64 t635, .int .i64 t636, .int .i64 t637, .int .i64 t638, .int .i64 t639, .int .i64 t640, .int .i64 t641])]) (fun s_ w' => (w'.cell? ⟨gb623, 0, none⟩ = some (.int .i64 a1_0) ∧ w'.cell? ⟨gb623, 1, none⟩ = some (.int .i64 a1_1) ∧ w'.cell? ⟨gb624, 0, none⟩ = some (.int .i64 a2_0) ∧ w'.cell? ⟨gb624, 1, none⟩ = some (.int .i64 a2_1) ∧ w'.cell? ⟨gb624, 2, none⟩ = some (.int .i64 a2_2) ∧ w'.cell? ⟨gb624, 3, none⟩ = some (.int .i64 a2_3) ∧ w'.cell? ⟨gb624, 4, none⟩ = some (.int .i64 a2_4) ∧ w'.cell? ⟨gb624, 5, none⟩ = some (.int .i64 a2_5) ∧ w'.cell? ⟨gb624, 6, none⟩ = some (.slice A2_6 l2_6.length c2_6) ∧ w'.cell? ⟨gb624, 7, none⟩ = some (.slice A2_7 l2_7.length c2_7) ∧ w'.cell? ⟨gb624, 8, none⟩ = some (.bool a2_8)) ∧ (Kd.N k44 44 w' w.heap.size (fun k_ => ((P2_6_ k_ ∨ P2_7_ k_) ∨ w.heap.size ≤ k_) ∧ k_ ≠ gb623 ∧ k_ ≠ gb624 ∧ k_ ≠ s_.2) s_.1 t631) ∧ (Kd.V k61 61 w' w.heap.size (fun k_ => ((P2_6_ k_ ∨ P2_7_ k_) ∨ w.heap.size ≤ k_) ∧ some k_ ≠ (s_.1 : Value).ownBlock ∧ k_ ≠ gb623 ∧ k_ ≠ gb624 ∧ k_ ≠ s_.2) (.slice A2_6 l2_6.length c2_6) l2_6) ∧ (Kd.V k46 46 w' w.heap.size (fun k_ => ((P2_6_ k_ ∨ P2_7_ k_) ∨ w.heap.size ≤ k_) ∧ some k_ ≠ (s_.1 : Value).ownBlock ∧ k_ ≠ gb623 ∧ k_ ≠ gb624 ∧ k_ ≠ s_.2) (.slice A2_7 l2_7.length c2_7) l2_7) ∧ (w'.heap[gb623]? = some (.cells #[.int .i64 a1_0, .int .i64 a1_1] 24 (0, 0))) ∧ (w'.heap[gb624]? = some (.cells #[.int .i64 a2_0, .int .i64 a2_1, .int .i64 a2_2, .int .i64 a2_3, .int .i64 a2_4, .int .i64 a2_5, .slice A2_6 l2_6.length c2_6, .slice A2_7 l2_7.length c2_7, .bool a2_8] 32 (0, 0))) ∧ (w'.heap[s_.2]? = some (.cells #[.int .i64 0, .int .i64 0, .int .i64 0, .int .i64 0, .int .i64 0, .int .i64 0, .int .i64 0] 42 (0, 0))) ∧ (w.heap.size ≤ s_.2) ∧ (w.heap.size ≤ s_.2) ∧ (gb623 ≠ s_.2) ∧ (s_.2 ≠ gb623) ∧ (gb624 ≠ s_.2) ∧ (s_.2 ≠ gb624) ∧ (Below w.heap.size w w')) ?_ ?_
     rotate_left
     · intro hCont
       refine two_ (i := 1) (j := 9) (Ni := some 25) (Nj := some 8) #[true, true, true, true, true, false, false, false, false, false, false, false] #[true, false, true, true, true, false, false, false, false, true, false, false] rfl rfl rfl rfl (two_of HT_.out (by kernel_rfl)) (by decide) (by decide) (fun K hK => ?_) (fun K hK => ?_)
       · skip
         refine goes_ Try.func13 (by kernel_rfl) rfl #[.slice A0 l0.length c0] (by rfl) rfl rfl (by (try simp only [List.map_toArray, List.map_cons, List.map_nil]); first | done | rfl | (simp only [List.length_drop, List.length_take]; rfl)) ?_
         with_reducible refine (althinglaw11_own.calls kj3 _ _ l0 t631 _ ?side1 ?side2 A20.out).mono ?_
         (case side1 => exact kc_ (Kd.C_below HR0.out HB.out))
         (case side2 => exact HC0.out)
         rintro e w23 ⟨v632, rfl, ho0, hb⟩
         refine ⟨_, rfl, ?_⟩
         have n0_ := Aside0.mk (Kd.V_elder' (kv_ HO_625006.out) (Kd.S_base ho0) hb)
         have n1_ := Aside0.mk (Kd.V_elder' (kv_ HO_625007.out) (Kd.S_base ho0) hb)
         have n2_ := Aside0.mk (Kd.N_lower (Kd.N_mono (ok' := fun k_ => ((P2_6_ k_ ∨ P2_7_ k_) ∨ w.heap.size ≤ k_) ∧ k_ ≠ gb623 ∧ k_ ≠ gb624) (Kd.S_N (Kd.S_bound ho0)) (fun k_ hk_ => ⟨(.inr (Nat.le_trans (below_size (by repeat (first | (with_reducible first | exact HB.out | apply below_alloc | apply pw_below_drewN | apply below_drew1 | refine below_set ?_ GE623.out | refine below_set ?_ GE624.out) | exact HB.out))) hk_.2.1)), (Kd.freshB (g := gb623) (o := .cells #[.int .i64 a1_0, .int .i64 a1_1] 24 (0, 0)) (kb_ BK623.out) k_ hk_.2.1), (Kd.freshB (g := gb624) (o := .cells #[.int .i64 a2_0, .int .i64 a2_1, .int .i64 a2_2, .int .i64 a2_3, .int .i64 a2_4, .int .i64 a2_5, .slice A2_6 l2_6.length c2_6, .slice A2_7 l2_7.length c2_7, .bool a2_8] 32 (0, 0)) (kb_ BK624.out) k_ hk_.2.1)⟩)) (below_size (by repeat (first | (with_reducible first | exact HB.out | apply below_alloc | apply pw_below_drewN | apply below_drew1 | refine below_set ?_ GE623.out | refine below_set ?_ GE624.out) | exact HB.out))))
         have n3_ := Aside0.mk (blk_below (kb_ BK623.out) hb)
         have n4_ := Aside0.mk (blk_below (kb_ BK624.out) hb)
         have n5_ := Aside0.mk (below_step (by repeat (first | (with_reducible first | exact HB.out | apply below_alloc | apply pw_below_drewN | apply below_drew1 | refine below_set ?_ GE623.out | refine below_set ?_ GE624.out) | exact HB.out)) hb)
         clear HO_625006
         clear HO_625007
         clear BK623
         clear BK624
         clear HB
         have HO_625006 := n0_
         have HO_625007 := n1_
         have HO633 := n2_
         have BK623 := n3_
         have BK624 := n4_
         have HB := n5_
         clear n0_ n1_ n2_ n3_ n4_ n5_
         (try clear hb)
         (try clear hb2)
         (try clear hk)
         (try clear hi)
         (try clear ho0)
         obtain ⟨Ao24, co24, eo24⟩ := Kd.N_slice HO633.out
         (first | subst eo24 | (injection eo24 with f1_ f2_ f3_; have f4_ := f1_.symm; have f5_ := f3_.symm; clear f1_ f2_ f3_; subst f4_; subst f5_))
         refine hK.out _ _ ⟨(blk_cell BK623.out 0).trans rfl, (blk_cell BK623.out 1).trans rfl, (blk_cell BK624.out 0).trans rfl, (blk_cell BK624.out 1).trans rfl, (blk_cell BK624.out 2).trans rfl, (blk_cell BK624.out 3).trans rfl, (blk_cell BK624.out 4).trans rfl, (blk_cell BK624.out 5).trans rfl, (blk_cell BK624.out 6).trans rfl, (blk_cell BK624.out 7).trans rfl, (blk_cell BK624.out 8).trans rfl⟩ (fun hHeld => ?_)
         clear hK K
         refine norm_ (a' := ?_) ?_ ?_
         rotate_left
         · show Act.put _ (some 25) _ = _
           simp only [Act.put, List.setIfInBounds_toArray, List.set_cons_zero, List.set_cons_succ, i64_w, i32_w]
           rfl
         refine two_ (i := 5) (j := 9) (Ni := some 29) (Nj := some 8) #[true, true, true, true, true, true, false, false, false, false, false, false] #[true, true, true, true, true, false, false, false, false, true, false, false] rfl rfl rfl rfl (two_of HT_.out (by kernel_rfl)) (by decide) (by decide) (fun K hK => ?_) (fun K hK => ?_)
         · skip
           refine goes_ Try.func21 (by kernel_rfl) rfl #[.slice Ao24 t631.length co24, .agg #[.int .i64 a1_0, .int .i64 a1_1], .agg #[.int .i64 a2_0, .int .i64 a2_1, .int .i64 a2_2, .int .i64 a2_3, .int .i64 a2_4, .int .i64 a2_5, .slice A2_6 l2_6.length c2_6, .slice A2_7 l2_7.length c2_7, .bool a2_8], .int .i64 1, .agg #[.int .i64 0, .int .i64 0, .int .i64 0, .int .i64 0, .int .i64 0, .int .i64 0, .int .i64 0]] (by rfl) rfl rfl (by (try simp only [List.map_toArray, List.map_cons, List.map_nil]); first | done | rfl | (simp only [List.length_drop, List.length_take]; rfl)) ?_
           with_reducible refine (index_Attrs.calls kj3 _ _ t631 a1_0 a1_1 a2_0 a2_1 a2_2 a2_3 a2_4 a2_5 _ _ l2_6 _ _ l2_7 a2_8 1 0 0 0 0 0 0 0 t634 t635 t636 t637 t638 t639 t640 t641 _ ?side1 ?side2 ?side3 ?side4 ?side5 ?side6 A21.out).mono ?_
           (case side1 => repeat (first | exact (Kd.N_reads' HO633.out).2.2 | (with_reducible refine Kd.C_alloc ?_ _) | (with_reducible refine Kd.C_drewN ?_ _) | (with_reducible refine Kd.C_drew ?_)))
           (case side2 => exact (Kd.N_reads' HO633.out).2.1)
           (case side3 => repeat (first | exact (Kd.V_reads' HO_625006.out).2.2 | (with_reducible refine Kd.C_alloc ?_ _) | (with_reducible refine Kd.C_drewN ?_ _) | (with_reducible refine Kd.C_drew ?_)))
           (case side4 => exact (Kd.V_reads' HO_625006.out).2.1)
           (case side5 => repeat (first | exact (Kd.V_reads' HO_625007.out).2.2 | (with_reducible refine Kd.C_alloc ?_ _) | (with_reducible refine Kd.C_drewN ?_ _) | (with_reducible refine Kd.C_drew ?_)))
           (case side6 => exact (Kd.V_reads' HO_625007.out).2.1)
           rintro e w25 ⟨rfl, hb⟩
           refine ⟨_, rfl, ?_⟩
           have n0_ := Aside0.mk (Kd.V_below (kv_ HO_625006.out) hb)
           have n1_ := Aside0.mk (Kd.V_below (kv_ HO_625007.out) hb)
           have n2_ := Aside0.mk (Kd.N_below (kn_ HO633.out) hb)
           have n3_ := Aside0.mk (blk_below (kb_ BK623.out) hb)
           have n4_ := Aside0.mk (blk_below (kb_ BK624.out) hb)
           have n5_ := Aside0.mk (below_step (by repeat (first | (with_reducible first | exact HB.out | apply below_alloc | apply pw_below_drewN | apply below_drew1 | refine below_set ?_ GE623.out | refine below_set ?_ GE624.out) | exact HB.out)) hb)
           clear HO_625006
           clear HO_625007
           clear HO633
           clear BK623
           clear BK624
           clear HB
           have HO_625006 := n0_
           have HO_625007 := n1_
           have HO633 := n2_
           have BK623 := n3_
           have BK624 := n4_
           have HB := n5_
           clear n0_ n1_ n2_ n3_ n4_ n5_
           (try clear hb)
           (try clear hb2)
           (try clear hk)
           (try clear hi)
           refine hK.out _ _ ⟨(blk_cell BK623.out 0).trans rfl, (blk_cell BK623.out 1).trans rfl, (blk_cell BK624.out 0).trans rfl, (blk_cell BK624.out 1).trans rfl, (blk_cell BK624.out 2).trans rfl, (blk_cell BK624.out 3).trans rfl, (blk_cell BK624.out 4).trans rfl, (blk_cell BK624.out 5).trans rfl, (blk_cell BK624.out 6).trans rfl, (blk_cell BK624.out 7).trans rfl, (blk_cell BK624.out 8).trans rfl⟩ (fun hHeld => ?_)
           clear hK K
           refine norm_ (a' := ?_) ?_ ?_
           rotate_left
           · show Act.put _ (some 29) _ = _
             simp only [Act.put, List.setIfInBounds_toArray, List.set_cons_zero, List.set_cons_succ, i64_w, i32_w]
             rfl
           refine pure_ (i := 6) (N := some 23) (v := ?_) (a' := ?_) #[true, true, true, true, true, true, true, false, false, false, false, false] rfl rfl (any_of HT_.out (by kernel_rfl)) (fun _ _ _ h => h) (Or.inl ⟨by rfl, ?_⟩) ?_ ?_
           rotate_left
           · intro w'
             go_simp
             with_reducible rfl
           rotate_left
           · simp only [Act.put, List.setIfInBounds_toArray, List.set_cons_zero, List.set_cons_succ, i64_w, i32_w]
             rfl
           refine pure_ (i := 7) (N := some 30) (v := ?_) (a' := ?_) #[true, true, true, true, true, true, true, true, false, false, false, false] rfl rfl (any_of HT_.out (by kernel_rfl)) (fun _ _ _ h => h) (Or.inl ⟨by rfl, ?_⟩) ?_ ?_
           rotate_left
           · intro w'
             go_simp
             with_reducible rfl
           rotate_left
           · simp only [Act.put, List.setIfInBounds_toArray, List.set_cons_zero, List.set_cons_succ, i64_w, i32_w]
             rfl
           refine pure_ (i := 8) (N := some 31) (v := ?_) (a' := ?_) #[true, true, true, true, true, true, true, true, true, false, false, false] rfl rfl (any_of HT_.out (by kernel_rfl)) (fun _ _ _ h => h) (Or.inl ⟨by rfl, ?_⟩) ?_ ?_
           rotate_left
           · intro w'
             go_simp
             with_reducible rfl
           rotate_left
           · simp only [Act.put, List.setIfInBounds_toArray, List.set_cons_zero, List.set_cons_succ, i64_w, i32_w]
             rfl
           refine one_ (i := 9) (N := some 8) #[true, true, true, true, true, true, true, true, true, true, false, false] rfl rfl (one_of HT_.out (by kernel_rfl)) (by decide) (fun K hK => ?_)
           refine box_step ?hg (N := 8) ?hd (cs := #[.int .i64 0, .int .i64 0, .int .i64 0, .int .i64 0, .int .i64 0, .int .i64 0, .int .i64 0]) (t := 42) ?hr ?_; (case hd => rfl); (case hg => rfl); (case hr => first | (go_simp; done) | (go_simp; rfl))
           intro gb642 hg w26 hbox hb
           have n0_ := Aside0.mk (Kd.V_below (Kd.V_elderB (kv_ HO_625006.out) gb642 (Nat.le_of_eq hg.symm)) hb)
           have n1_ := Aside0.mk (Kd.V_below (Kd.V_elderB (kv_ HO_625007.out) gb642 (Nat.le_of_eq hg.symm)) hb)
           have n2_ := Aside0.mk (Kd.N_below (Kd.N_elderB (kn_ HO633.out) gb642 (Nat.le_of_eq hg.symm)) hb)
           have n3_ := Aside0.mk (blk_below (kb_ BK623.out) hb)
           have n4_ := Aside0.mk (blk_below (kb_ BK624.out) hb)
           have n5_ := Aside0.mk (below_step (by repeat (first | (with_reducible first | exact HB.out | apply below_alloc | apply pw_below_drewN | apply below_drew1 | refine below_set ?_ GE623.out | refine below_set ?_ GE624.out) | exact HB.out)) hb)
           have n6_ := Aside0.mk (hbox)
           have n7_ := Aside0.mk ((by rw [hg]; exact (below_size (by repeat (first | (with_reducible first | exact HB.out | apply below_alloc | apply pw_below_drewN | apply below_drew1 | refine below_set ?_ GE623.out | refine below_set ?_ GE624.out) | exact HB.out))) : w.heap.size ≤ gb642))
           have n8_ := Aside0.mk ((by rw [hg]; exact (below_size (by repeat (first | (with_reducible first | exact HB.out | apply below_alloc | apply pw_below_drewN | apply below_drew1 | refine below_set ?_ GE623.out | refine below_set ?_ GE624.out) | exact HB.out))) : w.heap.size ≤ gb642))
           have n9_ := Aside0.mk ((by rw [hg]; exact Nat.ne_of_lt (blk_lt (kb_ BK623.out)) : gb623 ≠ gb642))
           have n10_ := Aside0.mk ((by rw [hg]; exact Nat.ne_of_gt (blk_lt (kb_ BK623.out)) : gb642 ≠ gb623))
           have n11_ := Aside0.mk ((by rw [hg]; exact Nat.ne_of_lt (blk_lt (kb_ BK624.out)) : gb624 ≠ gb642))
           have n12_ := Aside0.mk ((by rw [hg]; exact Nat.ne_of_gt (blk_lt (kb_ BK624.out)) : gb642 ≠ gb624))
           clear HO_625006
           clear HO_625007
           clear HO633
           clear BK623
           clear BK624
           clear HB
           have HO_625006 := n0_
           have HO_625007 := n1_
           have HO633 := n2_
           have BK623 := n3_
           have BK624 := n4_
           have HB := n5_
           have BK642 := n6_
           have GW642 := n7_
           have GE642 := n8_
           have NB623_642 := n9_
           have NB642_623 := n10_
           have NB624_642 := n11_
           have NB642_624 := n12_
           clear n0_ n1_ n2_ n3_ n4_ n5_ n6_ n7_ n8_ n9_ n10_ n11_ n12_
           clear hb hbox hg
           refine hK.out _ _ ⟨(blk_cell BK623.out 0).trans rfl, (blk_cell BK623.out 1).trans rfl, (blk_cell BK624.out 0).trans rfl, (blk_cell BK624.out 1).trans rfl, (blk_cell BK624.out 2).trans rfl, (blk_cell BK624.out 3).trans rfl, (blk_cell BK624.out 4).trans rfl, (blk_cell BK624.out 5).trans rfl, (blk_cell BK624.out 6).trans rfl, (blk_cell BK624.out 7).trans rfl, (blk_cell BK624.out 8).trans rfl⟩ (fun hHeld => ?_)
           clear hK K
           refine norm_ (a' := ?_) ?_ ?_
           rotate_left
           · show Act.put _ (some 8) _ = _
             simp only [Act.put, List.setIfInBounds_toArray, List.set_cons_zero, List.set_cons_succ, i64_w, i32_w]
             rfl
           exact norm_ (by simp only [putAll, Act.put, List.setIfInBounds_toArray, List.set_cons_zero, List.set_cons_succ]) (hCont (.slice Ao24 t631.length co24, gb642) _ ⟨hHeld, (by (with_reducible repeat (first | apply Kd.N_alloc | apply Kd.N_drewN | apply Kd.N_drew)); exact Kd.N_mono HO633.out (fun _ hk => ⟨hk.1.1, ⟨hk.1.2.1, ⟨hk.1.2.2, hk.2⟩⟩⟩)), (by (with_reducible repeat (first | apply Kd.V_alloc | apply Kd.V_drewN | apply Kd.V_drew)); exact Kd.V_mono HO_625006.out (fun _ hk => ⟨hk.1.1.1, ⟨hk.1.2, ⟨hk.1.1.2.1, ⟨hk.1.1.2.2, hk.2⟩⟩⟩⟩)), (by (with_reducible repeat (first | apply Kd.V_alloc | apply Kd.V_drewN | apply Kd.V_drew)); exact Kd.V_mono HO_625007.out (fun _ hk => ⟨hk.1.1.1, ⟨hk.1.2, ⟨hk.1.1.2.1, ⟨hk.1.1.2.2, hk.2⟩⟩⟩⟩)), (kb_ BK623.out), (kb_ BK624.out), (kb_ BK642.out), GW642.out, GE642.out, NB623_642.out, NB642_623.out, NB624_642.out, NB642_624.out, (by repeat (first | (with_reducible first | exact HB.out | apply below_alloc | apply pw_below_drewN | apply below_drew1 | refine below_set ?_ GE623.out | refine below_set ?_ GE624.out | refine below_set ?_ GE642.out) | exact HB.out))⟩)
         · skip
           refine box_step ?hg (N := 8) ?hd (cs := #[.int .i64 0, .int .i64 0, .int .i64 0, .int .i64 0, .int .i64 0, .int .i64 0, .int .i64 0]) (t := 42) ?hr ?_; (case hd => rfl); (case hg => rfl); (case hr => first | (go_simp; done) | (go_simp; rfl))
           intro gb642 hg w24 hbox hb
           have n0_ := Aside0.mk (Kd.V_below (Kd.V_elderB (kv_ HO_625006.out) gb642 (Nat.le_of_eq hg.symm)) hb)
           have n1_ := Aside0.mk (Kd.V_below (Kd.V_elderB (kv_ HO_625007.out) gb642 (Nat.le_of_eq hg.symm)) hb)
           have n2_ := Aside0.mk (Kd.N_below (Kd.N_elderB (kn_ HO633.out) gb642 (Nat.le_of_eq hg.symm)) hb)
           have n3_ := Aside0.mk (blk_below (kb_ BK623.out) hb)
           have n4_ := Aside0.mk (blk_below (kb_ BK624.out) hb)
           have n5_ := Aside0.mk (below_step (by repeat (first | (with_reducible first | exact HB.out | apply below_alloc | apply pw_below_drewN | apply below_drew1 | refine below_set ?_ GE623.out | refine below_set ?_ GE624.out) | exact HB.out)) hb)
           have n6_ := Aside0.mk (hbox)
           have n7_ := Aside0.mk ((by rw [hg]; exact (below_size (by repeat (first | (with_reducible first | exact HB.out | apply below_alloc | apply pw_below_drewN | apply below_drew1 | refine below_set ?_ GE623.out | refine below_set ?_ GE624.out) | exact HB.out))) : w.heap.size ≤ gb642))
           have n8_ := Aside0.mk ((by rw [hg]; exact (below_size (by repeat (first | (with_reducible first | exact HB.out | apply below_alloc | apply pw_below_drewN | apply below_drew1 | refine below_set ?_ GE623.out | refine below_set ?_ GE624.out) | exact HB.out))) : w.heap.size ≤ gb642))
           have n9_ := Aside0.mk ((by rw [hg]; exact Nat.ne_of_lt (blk_lt (kb_ BK623.out)) : gb623 ≠ gb642))
           have n10_ := Aside0.mk ((by rw [hg]; exact Nat.ne_of_gt (blk_lt (kb_ BK623.out)) : gb642 ≠ gb623))
           have n11_ := Aside0.mk ((by rw [hg]; exact Nat.ne_of_lt (blk_lt (kb_ BK624.out)) : gb624 ≠ gb642))
           have n12_ := Aside0.mk ((by rw [hg]; exact Nat.ne_of_gt (blk_lt (kb_ BK624.out)) : gb642 ≠ gb624))
           clear HO_625006
           clear HO_625007
           clear HO633
           clear BK623
           clear BK624
           clear HB
           have HO_625006 := n0_
           have HO_625007 := n1_
           have HO633 := n2_
           have BK623 := n3_
           have BK624 := n4_
           have HB := n5_
           have BK642 := n6_
           have GW642 := n7_
           have GE642 := n8_
           have NB623_642 := n9_
           have NB642_623 := n10_
           have NB624_642 := n11_
           have NB642_624 := n12_
           clear n0_ n1_ n2_ n3_ n4_ n5_ n6_ n7_ n8_ n9_ n10_ n11_ n12_
           clear hb hbox hg
           obtain ⟨Ao25, co25, eo25⟩ := Kd.N_slice HO633.out
           (first | subst eo25 | (injection eo25 with f1_ f2_ f3_; have f4_ := f1_.symm; have f5_ := f3_.symm; clear f1_ f2_ f3_; subst f4_; subst f5_))
           refine hK.out _ _ ⟨(blk_cell BK623.out 0).trans rfl, (blk_cell BK623.out 1).trans rfl, (blk_cell BK624.out 0).trans rfl, (blk_cell BK624.out 1).trans rfl, (blk_cell BK624.out 2).trans rfl, (blk_cell BK624.out 3).trans rfl, (blk_cell BK624.out 4).trans rfl, (blk_cell BK624.out 5).trans rfl, (blk_cell BK624.out 6).trans rfl, (blk_cell BK624.out 7).trans rfl, (blk_cell BK624.out 8).trans rfl⟩ (fun hHeld => ?_)
           clear hK K
           refine norm_ (a' := ?_) ?_ ?_
           rotate_left
           · show Act.put _ (some 8) _ = _
             simp only [Act.put, List.setIfInBounds_toArray, List.set_cons_zero, List.set_cons_succ, i64_w, i32_w]
             rfl
           refine one_ (i := 5) (N := some 29) #[true, true, true, true, true, true, false, false, false, true, false, false] rfl rfl (one_of HT_.out (by kernel_rfl)) (by decide) (fun K hK => ?_)
           refine goes_ Try.func21 (by kernel_rfl) rfl #[.slice Ao25 t631.length co25, .agg #[.int .i64 a1_0, .int .i64 a1_1], .agg #[.int .i64 a2_0, .int .i64 a2_1, .int .i64 a2_2, .int .i64 a2_3, .int .i64 a2_4, .int .i64 a2_5, .slice A2_6 l2_6.length c2_6, .slice A2_7 l2_7.length c2_7, .bool a2_8], .int .i64 1, .agg #[.int .i64 0, .int .i64 0, .int .i64 0, .int .i64 0, .int .i64 0, .int .i64 0, .int .i64 0]] (by rfl) rfl rfl (by (try simp only [List.map_toArray, List.map_cons, List.map_nil]); first | done | rfl | (simp only [List.length_drop, List.length_take]; rfl)) ?_
           with_reducible refine (index_Attrs.calls kj3 _ _ t631 a1_0 a1_1 a2_0 a2_1 a2_2 a2_3 a2_4 a2_5 _ _ l2_6 _ _ l2_7 a2_8 1 0 0 0 0 0 0 0 t634 t635 t636 t637 t638 t639 t640 t641 _ ?side1 ?side2 ?side3 ?side4 ?side5 ?side6 A21.out).mono ?_
           (case side1 => repeat (first | exact (Kd.N_reads' HO633.out).2.2 | (with_reducible refine Kd.C_alloc ?_ _) | (with_reducible refine Kd.C_drewN ?_ _) | (with_reducible refine Kd.C_drew ?_)))
           (case side2 => exact (Kd.N_reads' HO633.out).2.1)
           (case side3 => repeat (first | exact (Kd.V_reads' HO_625006.out).2.2 | (with_reducible refine Kd.C_alloc ?_ _) | (with_reducible refine Kd.C_drewN ?_ _) | (with_reducible refine Kd.C_drew ?_)))
           (case side4 => exact (Kd.V_reads' HO_625006.out).2.1)
           (case side5 => repeat (first | exact (Kd.V_reads' HO_625007.out).2.2 | (with_reducible refine Kd.C_alloc ?_ _) | (with_reducible refine Kd.C_drewN ?_ _) | (with_reducible refine Kd.C_drew ?_)))
           (case side6 => exact (Kd.V_reads' HO_625007.out).2.1)
           rintro e w26 ⟨rfl, hb⟩
           refine ⟨_, rfl, ?_⟩
           have n0_ := Aside0.mk (Kd.V_below (kv_ HO_625006.out) hb)
           have n1_ := Aside0.mk (Kd.V_below (kv_ HO_625007.out) hb)
           have n2_ := Aside0.mk (Kd.N_below (kn_ HO633.out) hb)
           have n3_ := Aside0.mk (blk_below (kb_ BK623.out) hb)
           have n4_ := Aside0.mk (blk_below (kb_ BK624.out) hb)
           have n5_ := Aside0.mk (blk_below (kb_ BK642.out) hb)
           have n6_ := Aside0.mk (below_step (by repeat (first | (with_reducible first | exact HB.out | apply below_alloc | apply pw_below_drewN | apply below_drew1 | refine below_set ?_ GE623.out | refine below_set ?_ GE624.out | refine below_set ?_ GE642.out) | exact HB.out)) hb)
           clear HO_625006
           clear HO_625007
           clear HO633
           clear BK623
           clear BK624
           clear BK642
           clear HB
           have HO_625006 := n0_
           have HO_625007 := n1_
           have HO633 := n2_
           have BK623 := n3_
           have BK624 := n4_
           have BK642 := n5_
           have HB := n6_
           clear n0_ n1_ n2_ n3_ n4_ n5_ n6_
           (try clear hb)
           (try clear hb2)
           (try clear hk)
           (try clear hi)
           refine hK.out _ _ ⟨(blk_cell BK623.out 0).trans rfl, (blk_cell BK623.out 1).trans rfl, (blk_cell BK624.out 0).trans rfl, (blk_cell BK624.out 1).trans rfl, (blk_cell BK624.out 2).trans rfl, (blk_cell BK624.out 3).trans rfl, (blk_cell BK624.out 4).trans rfl, (blk_cell BK624.out 5).trans rfl, (blk_cell BK624.out 6).trans rfl, (blk_cell BK624.out 7).trans rfl, (blk_cell BK624.out 8).trans rfl⟩ (fun hHeld => ?_)
           clear hK K
           refine norm_ (a' := ?_) ?_ ?_
           rotate_left
           · show Act.put _ (some 29) _ = _
             simp only [Act.put, List.setIfInBounds_toArray, List.set_cons_zero, List.set_cons_succ, i64_w, i32_w]
             rfl
           refine pure_ (i := 6) (N := some 23) (v := ?_) (a' := ?_) #[true, true, true, true, true, true, true, false, false, true, false, false] rfl rfl (any_of HT_.out (by kernel_rfl)) (fun _ _ _ h => h) (Or.inl ⟨by rfl, ?_⟩) ?_ ?_
           rotate_left
           · intro w'
             go_simp
             with_reducible rfl
           rotate_left
           · simp only [Act.put, List.setIfInBounds_toArray, List.set_cons_zero, List.set_cons_succ, i64_w, i32_w]
             rfl
           refine pure_ (i := 7) (N := some 30) (v := ?_) (a' := ?_) #[true, true, true, true, true, true, true, true, false, true, false, false] rfl rfl (any_of HT_.out (by kernel_rfl)) (fun _ _ _ h => h) (Or.inl ⟨by rfl, ?_⟩) ?_ ?_
           rotate_left
           · intro w'
             go_simp
             with_reducible rfl
           rotate_left
           · simp only [Act.put, List.setIfInBounds_toArray, List.set_cons_zero, List.set_cons_succ, i64_w, i32_w]
             rfl
           refine pure_ (i := 8) (N := some 31) (v := ?_) (a' := ?_) #[true, true, true, true, true, true, true, true, true, true, false, false] rfl rfl (any_of HT_.out (by kernel_rfl)) (fun _ _ _ h => h) (Or.inl ⟨by rfl, ?_⟩) ?_ ?_
           rotate_left
           · intro w'
             go_simp
             with_reducible rfl
           rotate_left
           · simp only [Act.put, List.setIfInBounds_toArray, List.set_cons_zero, List.set_cons_succ, i64_w, i32_w]
             rfl
           exact norm_ (by simp only [putAll, Act.put, List.setIfInBounds_toArray, List.set_cons_zero, List.set_cons_succ]) (hCont (.slice Ao25 t631.length co25, gb642) _ ⟨hHeld, (by (with_reducible repeat (first | apply Kd.N_alloc | apply Kd.N_drewN | apply Kd.N_drew)); exact Kd.N_mono HO633.out (fun _ hk => ⟨hk.1.1, ⟨hk.1.2.1, ⟨hk.1.2.2, hk.2⟩⟩⟩)), (by (with_reducible repeat (first | apply Kd.V_alloc | apply Kd.V_drewN | apply Kd.V_drew)); exact Kd.V_mono HO_625006.out (fun _ hk => ⟨hk.1.1.1, ⟨hk.1.2, ⟨hk.1.1.2.1, ⟨hk.1.1.2.2, hk.2⟩⟩⟩⟩)), (by (with_reducible repeat (first | apply Kd.V_alloc | apply Kd.V_drewN | apply Kd.V_drew)); exact Kd.V_mono HO_625007.out (fun _ hk => ⟨hk.1.1.1, ⟨hk.1.2, ⟨hk.1.1.2.1, ⟨hk.1.1.2.2, hk.2⟩⟩⟩⟩)), (kb_ BK623.out), (kb_ BK624.out), (kb_ BK642.out), GW642.out, GE642.out, NB623_642.out, NB642_623.out, NB624_642.out, NB642_624.out, (by repeat (first | (with_reducible first | exact HB.out | apply below_alloc | apply pw_below_drewN | apply below_drew1 | refine below_set ?_ GE623.out | refine below_set ?_ GE624.out | refine below_set ?_ GE642.out) | exact HB.out))⟩)
       · skip
         refine box_step ?hg (N := 8) ?hd (cs := #[.int .i64 0, .int .i64 0, .int .i64 0, .int .i64 0, .int .i64 0, .int .i64 0, .int .i64 0]) (t := 42) ?hr ?_; (case hd => rfl); (case hg => rfl); (case hr => first | (go_simp; done) | (go_simp; rfl))
         intro gb642 hg w23 hbox hb
         have n0_ := Aside0.mk (Kd.V_below (Kd.V_elderB (kv_ HO_625006.out) gb642 (Nat.le_of_eq hg.symm)) hb)
         have n1_ := Aside0.mk (Kd.V_below (Kd.V_elderB (kv_ HO_625007.out) gb642 (Nat.le_of_eq hg.symm)) hb)
         have n2_ := Aside0.mk (blk_below (kb_ BK623.out) hb)
         have n3_ := Aside0.mk (blk_below (kb_ BK624.out) hb)
         have n4_ := Aside0.mk (below_step (by repeat (first | (with_reducible first | exact HB.out | apply below_alloc | apply pw_below_drewN | apply below_drew1 | refine below_set ?_ GE623.out | refine below_set ?_ GE624.out) | exact HB.out)) hb)
         have n5_ := Aside0.mk (hbox)
         have n6_ := Aside0.mk ((by rw [hg]; exact (below_size (by repeat (first | (with_reducible first | exact HB.out | apply below_alloc | apply pw_below_drewN | apply below_drew1 | refine below_set ?_ GE623.out | refine below_set ?_ GE624.out) | exact HB.out))) : w.heap.size ≤ gb642))
         have n7_ := Aside0.mk ((by rw [hg]; exact (below_size (by repeat (first | (with_reducible first | exact HB.out | apply below_alloc | apply pw_below_drewN | apply below_drew1 | refine below_set ?_ GE623.out | refine below_set ?_ GE624.out) | exact HB.out))) : w.heap.size ≤ gb642))
         have n8_ := Aside0.mk ((by rw [hg]; exact Nat.ne_of_lt (blk_lt (kb_ BK623.out)) : gb623 ≠ gb642))
         have n9_ := Aside0.mk ((by rw [hg]; exact Nat.ne_of_gt (blk_lt (kb_ BK623.out)) : gb642 ≠ gb623))
         have n10_ := Aside0.mk ((by rw [hg]; exact Nat.ne_of_lt (blk_lt (kb_ BK624.out)) : gb624 ≠ gb642))
         have n11_ := Aside0.mk ((by rw [hg]; exact Nat.ne_of_gt (blk_lt (kb_ BK624.out)) : gb642 ≠ gb624))
         clear HO_625006
         clear HO_625007
         clear BK623
         clear BK624
         clear HB
         have HO_625006 := n0_
         have HO_625007 := n1_
         have BK623 := n2_
         have BK624 := n3_
         have HB := n4_
         have BK642 := n5_
         have GW642 := n6_
         have GE642 := n7_
         have NB623_642 := n8_
         have NB642_623 := n9_
         have NB624_642 := n10_
         have NB642_624 := n11_
         clear n0_ n1_ n2_ n3_ n4_ n5_ n6_ n7_ n8_ n9_ n10_ n11_
         clear hb hbox hg
         refine hK.out _ _ ⟨(blk_cell BK623.out 0).trans rfl, (blk_cell BK623.out 1).trans rfl, (blk_cell BK624.out 0).trans rfl, (blk_cell BK624.out 1).trans rfl, (blk_cell BK624.out 2).trans rfl, (blk_cell BK624.out 3).trans rfl, (blk_cell BK624.out 4).trans rfl, (blk_cell BK624.out 5).trans rfl, (blk_cell BK624.out 6).trans rfl, (blk_cell BK624.out 7).trans rfl, (blk_cell BK624.out 8).trans rfl⟩ (fun hHeld => ?_)
         clear hK K
         refine norm_ (a' := ?_) ?_ ?_
         rotate_left
         · show Act.put _ (some 8) _ = _
           simp only [Act.put, List.setIfInBounds_toArray, List.set_cons_zero, List.set_cons_succ, i64_w, i32_w]
           rfl
         refine one_ (i := 1) (N := some 25) #[true, true, true, true, true, false, false, false, false, true, false, false] rfl rfl (one_of HT_.out (by kernel_rfl)) (by decide) (fun K hK => ?_)
         refine goes_ Try.func13 (by kernel_rfl) rfl #[.slice A0 l0.length c0] (by rfl) rfl rfl (by (try simp only [List.map_toArray, List.map_cons, List.map_nil]); first | done | rfl | (simp only [List.length_drop, List.length_take]; rfl)) ?_
         with_reducible refine (althinglaw11_own.calls kj3 _ _ l0 t631 _ ?side1 ?side2 A20.out).mono ?_
         (case side1 => exact kc_ (Kd.C_below HR0.out HB.out))
         (case side2 => exact HC0.out)
         rintro e w24 ⟨v632, rfl, ho0, hb⟩
         refine ⟨_, rfl, ?_⟩
         have n0_ := Aside0.mk (Kd.V_elder' (kv_ HO_625006.out) (Kd.S_base ho0) hb)
         have n1_ := Aside0.mk (Kd.V_elder' (kv_ HO_625007.out) (Kd.S_base ho0) hb)
         have n2_ := Aside0.mk (Kd.N_lower (Kd.N_mono (ok' := fun k_ => ((P2_6_ k_ ∨ P2_7_ k_) ∨ w.heap.size ≤ k_) ∧ k_ ≠ gb623 ∧ k_ ≠ gb624 ∧ k_ ≠ gb642) (Kd.S_N (Kd.S_bound ho0)) (fun k_ hk_ => ⟨(.inr (Nat.le_trans (below_size (by repeat (first | (with_reducible first | exact HB.out | apply below_alloc | apply pw_below_drewN | apply below_drew1 | refine below_set ?_ GE623.out | refine below_set ?_ GE624.out | refine below_set ?_ GE642.out) | exact HB.out))) hk_.2.1)), (Kd.freshB (g := gb623) (o := .cells #[.int .i64 a1_0, .int .i64 a1_1] 24 (0, 0)) (kb_ BK623.out) k_ hk_.2.1), (Kd.freshB (g := gb624) (o := .cells #[.int .i64 a2_0, .int .i64 a2_1, .int .i64 a2_2, .int .i64 a2_3, .int .i64 a2_4, .int .i64 a2_5, .slice A2_6 l2_6.length c2_6, .slice A2_7 l2_7.length c2_7, .bool a2_8] 32 (0, 0)) (kb_ BK624.out) k_ hk_.2.1), (Kd.freshB (g := gb642) (o := .cells #[.int .i64 0, .int .i64 0, .int .i64 0, .int .i64 0, .int .i64 0, .int .i64 0, .int .i64 0] 42 (0, 0)) (kb_ BK642.out) k_ hk_.2.1)⟩)) (below_size (by repeat (first | (with_reducible first | exact HB.out | apply below_alloc | apply pw_below_drewN | apply below_drew1 | refine below_set ?_ GE623.out | refine below_set ?_ GE624.out | refine below_set ?_ GE642.out) | exact HB.out))))
         have n3_ := Aside0.mk (blk_below (kb_ BK623.out) hb)
         have n4_ := Aside0.mk (blk_below (kb_ BK624.out) hb)
         have n5_ := Aside0.mk (blk_below (kb_ BK642.out) hb)
         have n6_ := Aside0.mk (below_step (by repeat (first | (with_reducible first | exact HB.out | apply below_alloc | apply pw_below_drewN | apply below_drew1 | refine below_set ?_ GE623.out | refine below_set ?_ GE624.out | refine below_set ?_ GE642.out) | exact HB.out)) hb)
         clear HO_625006
         clear HO_625007
         clear BK623
         clear BK624
         clear BK642
         clear HB
         have HO_625006 := n0_
         have HO_625007 := n1_
         have HO633 := n2_
         have BK623 := n3_
         have BK624 := n4_
         have BK642 := n5_
         have HB := n6_
         clear n0_ n1_ n2_ n3_ n4_ n5_ n6_
         (try clear hb)
         (try clear hb2)
         (try clear hk)
         (try clear hi)
         (try clear ho0)
         obtain ⟨Ao25, co25, eo25⟩ := Kd.N_slice HO633.out
         (first | subst eo25 | (injection eo25 with f1_ f2_ f3_; have f4_ := f1_.symm; have f5_ := f3_.symm; clear f1_ f2_ f3_; subst f4_; subst f5_))
         refine hK.out _ _ ⟨(blk_cell BK623.out 0).trans rfl, (blk_cell BK623.out 1).trans rfl, (blk_cell BK624.out 0).trans rfl, (blk_cell BK624.out 1).trans rfl, (blk_cell BK624.out 2).trans rfl, (blk_cell BK624.out 3).trans rfl, (blk_cell BK624.out 4).trans rfl, (blk_cell BK624.out 5).trans rfl, (blk_cell BK624.out 6).trans rfl, (blk_cell BK624.out 7).trans rfl, (blk_cell BK624.out 8).trans rfl⟩ (fun hHeld => ?_)
         clear hK K
         refine norm_ (a' := ?_) ?_ ?_
         rotate_left
         · show Act.put _ (some 25) _ = _
           simp only [Act.put, List.setIfInBounds_toArray, List.set_cons_zero, List.set_cons_succ, i64_w, i32_w]
           rfl
         refine one_ (i := 5) (N := some 29) #[true, true, true, true, true, true, false, false, false, true, false, false] rfl rfl (one_of HT_.out (by kernel_rfl)) (by decide) (fun K hK => ?_)
         refine goes_ Try.func21 (by kernel_rfl) rfl #[.slice Ao25 t631.length co25, .agg #[.int .i64 a1_0, .int .i64 a1_1], .agg #[.int .i64 a2_0, .int .i64 a2_1, .int .i64 a2_2, .int .i64 a2_3, .int .i64 a2_4, .int .i64 a2_5, .slice A2_6 l2_6.length c2_6, .slice A2_7 l2_7.length c2_7, .bool a2_8], .int .i64 1, .agg #[.int .i64 0, .int .i64 0, .int .i64 0, .int .i64 0, .int .i64 0, .int .i64 0, .int .i64 0]] (by rfl) rfl rfl (by (try simp only [List.map_toArray, List.map_cons, List.map_nil]); first | done | rfl | (simp only [List.length_drop, List.length_take]; rfl)) ?_
         with_reducible refine (index_Attrs.calls kj3 _ _ t631 a1_0 a1_1 a2_0 a2_1 a2_2 a2_3 a2_4 a2_5 _ _ l2_6 _ _ l2_7 a2_8 1 0 0 0 0 0 0 0 t634 t635 t636 t637 t638 t639 t640 t641 _ ?side1 ?side2 ?side3 ?side4 ?side5 ?side6 A21.out).mono ?_
         (case side1 => repeat (first | exact (Kd.N_reads' HO633.out).2.2 | (with_reducible refine Kd.C_alloc ?_ _) | (with_reducible refine Kd.C_drewN ?_ _) | (with_reducible refine Kd.C_drew ?_)))
         (case side2 => exact (Kd.N_reads' HO633.out).2.1)
         (case side3 => repeat (first | exact (Kd.V_reads' HO_625006.out).2.2 | (with_reducible refine Kd.C_alloc ?_ _) | (with_reducible refine Kd.C_drewN ?_ _) | (with_reducible refine Kd.C_drew ?_)))
         (case side4 => exact (Kd.V_reads' HO_625006.out).2.1)
         (case side5 => repeat (first | exact (Kd.V_reads' HO_625007.out).2.2 | (with_reducible refine Kd.C_alloc ?_ _) | (with_reducible refine Kd.C_drewN ?_ _) | (with_reducible refine Kd.C_drew ?_)))
         (case side6 => exact (Kd.V_reads' HO_625007.out).2.1)
         rintro e w26 ⟨rfl, hb⟩
         refine ⟨_, rfl, ?_⟩
         have n0_ := Aside0.mk (Kd.V_below (kv_ HO_625006.out) hb)
         have n1_ := Aside0.mk (Kd.V_below (kv_ HO_625007.out) hb)
         have n2_ := Aside0.mk (Kd.N_below (kn_ HO633.out) hb)
         have n3_ := Aside0.mk (blk_below (kb_ BK623.out) hb)
         have n4_ := Aside0.mk (blk_below (kb_ BK624.out) hb)
         have n5_ := Aside0.mk (blk_below (kb_ BK642.out) hb)
         have n6_ := Aside0.mk (below_step (by repeat (first | (with_reducible first | exact HB.out | apply below_alloc | apply pw_below_drewN | apply below_drew1 | refine below_set ?_ GE623.out | refine below_set ?_ GE624.out | refine below_set ?_ GE642.out) | exact HB.out)) hb)
         clear HO_625006
         clear HO_625007
         clear HO633
         clear BK623
         clear BK624
         clear BK642
         clear HB
         have HO_625006 := n0_
         have HO_625007 := n1_
         have HO633 := n2_
         have BK623 := n3_
         have BK624 := n4_
         have BK642 := n5_
         have HB := n6_
         clear n0_ n1_ n2_ n3_ n4_ n5_ n6_
         (try clear hb)
         (try clear hb2)
         (try clear hk)
         (try clear hi)
         refine hK.out _ _ ⟨(blk_cell BK623.out 0).trans rfl, (blk_cell BK623.out 1).trans rfl, (blk_cell BK624.out 0).trans rfl, (blk_cell BK624.out 1).trans rfl, (blk_cell BK624.out 2).trans rfl, (blk_cell BK624.out 3).trans rfl, (blk_cell BK624.out 4).trans rfl, (blk_cell BK624.out 5).trans rfl, (blk_cell BK624.out 6).trans rfl, (blk_cell BK624.out 7).trans rfl, (blk_cell BK624.out 8).trans rfl⟩ (fun hHeld => ?_)
         clear hK K
         refine norm_ (a' := ?_) ?_ ?_
         rotate_left
         · show Act.put _ (some 29) _ = _
           simp only [Act.put, List.setIfInBounds_toArray, List.set_cons_zero, List.set_cons_succ, i64_w, i32_w]
           rfl
         refine pure_ (i := 6) (N := some 23) (v := ?_) (a' := ?_) #[true, true, true, true, true, true, true, false, false, true, false, false] rfl rfl (any_of HT_.out (by kernel_rfl)) (fun _ _ _ h => h) (Or.inl ⟨by rfl, ?_⟩) ?_ ?_
         rotate_left
         · intro w'
           go_simp
           with_reducible rfl
         rotate_left
         · simp only [Act.put, List.setIfInBounds_toArray, List.set_cons_zero, List.set_cons_succ, i64_w, i32_w]
           rfl
         refine pure_ (i := 7) (N := some 30) (v := ?_) (a' := ?_) #[true, true, true, true, true, true, true, true, false, true, false, false] rfl rfl (any_of HT_.out (by kernel_rfl)) (fun _ _ _ h => h) (Or.inl ⟨by rfl, ?_⟩) ?_ ?_
         rotate_left
         · intro w'
           go_simp
           with_reducible rfl
         rotate_left
         · simp only [Act.put, List.setIfInBounds_toArray, List.set_cons_zero, List.set_cons_succ, i64_w, i32_w]
           rfl
         refine pure_ (i := 8) (N := some 31) (v := ?_) (a' := ?_) #[true, true, true, true, true, true, true, true, true, true, false, false] rfl rfl (any_of HT_.out (by kernel_rfl)) (fun _ _ _ h => h) (Or.inl ⟨by rfl, ?_⟩) ?_ ?_
         rotate_left
         · intro w'
           go_simp
           with_reducible rfl
         rotate_left
         · simp only [Act.put, List.setIfInBounds_toArray, List.set_cons_zero, List.set_cons_succ, i64_w, i32_w]
           rfl
         exact norm_ (by simp only [putAll, Act.put, List.setIfInBounds_toArray, List.set_cons_zero, List.set_cons_succ]) (hCont (.slice Ao25 t631.length co25, gb642) _ ⟨hHeld, (kn_ HO633.out), (by (with_reducible repeat (first | apply Kd.V_alloc | apply Kd.V_drewN | apply Kd.V_drew)); exact Kd.V_mono HO_625006.out (fun _ hk => ⟨hk.1.1.1, ⟨hk.2, ⟨hk.1.1.2.1, ⟨hk.1.1.2.2, hk.1.2⟩⟩⟩⟩)), (by (with_reducible repeat (first | apply Kd.V_alloc | apply Kd.V_drewN | apply Kd.V_drew)); exact Kd.V_mono HO_625007.out (fun _ hk => ⟨hk.1.1.1, ⟨hk.2, ⟨hk.1.1.2.1, ⟨hk.1.1.2.2, hk.1.2⟩⟩⟩⟩)), (kb_ BK623.out), (kb_ BK624.out), (kb_ BK642.out), GW642.out, GE642.out, NB623_642.out, NB642_623.out, NB624_642.out, NB642_624.out, (by repeat (first | (with_reducible first | exact HB.out | apply below_alloc | apply pw_below_drewN | apply below_drew1 | refine below_set ?_ GE623.out | refine below_set ?_ GE624.out | refine below_set ?_ GE642.out) | exact HB.out))⟩)
     rintro ⟨v632, gb642⟩ w27 ⟨hS_, h0_, h1_, h2_, h3_, h4_, h5_, h6_, h7_, h8_, h9_, h10_, h11_, h12_⟩
     have n0_ : Aside0 (Kd.N k44 44 w27 w.heap.size (fun k_ => ((P2_6_ k_ ∨ P2_7_ k_) ∨ w.heap.size ≤ k_) ∧ k_ ≠ gb623 ∧ k_ ≠ gb624 ∧ k_ ≠ gb642) v632 t631) := ⟨h0_⟩
     have n1_ : Aside0 (Kd.V k61 61 w27 w.heap.size (fun k_ => ((P2_6_ k_ ∨ P2_7_ k_) ∨ w.heap.size ≤ k_) ∧ some k_ ≠ (v632 : Value).ownBlock ∧ k_ ≠ gb623 ∧ k_ ≠ gb624 ∧ k_ ≠ gb642) (.slice A2_6 l2_6.length c2_6) l2_6) := ⟨h1_⟩
     have n2_ : Aside0 (Kd.V k46 46 w27 w.heap.size (fun k_ => ((P2_6_ k_ ∨ P2_7_ k_) ∨ w.heap.size ≤ k_) ∧ some k_ ≠ (v632 : Value).ownBlock ∧ k_ ≠ gb623 ∧ k_ ≠ gb624 ∧ k_ ≠ gb642) (.slice A2_7 l2_7.length c2_7) l2_7) := ⟨h2_⟩
     have n3_ : Aside0 (w27.heap[gb623]? = some (.cells #[.int .i64 a1_0, .int .i64 a1_1] 24 (0, 0))) := ⟨h3_⟩
     have n4_ : Aside0 (w27.heap[gb624]? = some (.cells #[.int .i64 a2_0, .int .i64 a2_1, .int .i64 a2_2, .int .i64 a2_3, .int .i64 a2_4, .int .i64 a2_5, .slice A2_6 l2_6.length c2_6, .slice A2_7 l2_7.length c2_7, .bool a2_8] 32 (0, 0))) := ⟨h4_⟩
     have n5_ : Aside0 (w27.heap[gb642]? = some (.cells #[.int .i64 0, .int .i64 0, .int .i64 0, .int .i64 0, .int .i64 0, .int .i64 0, .int .i64 0] 42 (0, 0))) := ⟨h5_⟩
     have n6_ : Aside0 (w.heap.size ≤ gb642) := ⟨h6_⟩
     have n7_ : Aside0 (w.heap.size ≤ gb642) := ⟨h7_⟩
     have n8_ : Aside0 (gb623 ≠ gb642) := ⟨h8_⟩
     have n9_ : Aside0 (gb642 ≠ gb623) := ⟨h9_⟩
     have n10_ : Aside0 (gb624 ≠ gb642) := ⟨h10_⟩
     have n11_ : Aside0 (gb642 ≠ gb624) := ⟨h11_⟩
     have n12_ : Aside0 (Below w.heap.size w w27) := ⟨h12_⟩
     clear HO_625006
     clear HO_625007
     clear BK623
     clear BK624
     clear HB
     clear h0_ h1_ h2_ h3_ h4_ h5_ h6_ h7_ h8_ h9_ h10_ h11_ h12_
     have HO633 := n0_
     have HO_625006 := n1_
     have HO_625007 := n2_
     have BK623 := n3_
     have BK624 := n4_
     have BK642 := n5_
     have GW642 := n6_
     have GE642 := n7_
     have NB623_642 := n8_
     have NB642_623 := n9_
     have NB624_642 := n10_
     have NB642_624 := n11_
     have HB := n12_
     clear n0_ n1_ n2_ n3_ n4_ n5_ n6_ n7_ n8_ n9_ n10_ n11_ n12_
     have hHeld : w27.cell? ⟨gb623, 0, none⟩ = some (.int .i64 a1_0) ∧ w27.cell? ⟨gb623, 1, none⟩ = some (.int .i64 a1_1) ∧ w27.cell? ⟨gb624, 0, none⟩ = some (.int .i64 a2_0) ∧ w27.cell? ⟨gb624, 1, none⟩ = some (.int .i64 a2_1) ∧ w27.cell? ⟨gb624, 2, none⟩ = some (.int .i64 a2_2) ∧ w27.cell? ⟨gb624, 3, none⟩ = some (.int .i64 a2_3) ∧ w27.cell? ⟨gb624, 4, none⟩ = some (.int .i64 a2_4) ∧ w27.cell? ⟨gb624, 5, none⟩ = some (.int .i64 a2_5) ∧ w27.cell? ⟨gb624, 6, none⟩ = some (.slice A2_6 l2_6.length c2_6) ∧ w27.cell? ⟨gb624, 7, none⟩ = some (.slice A2_7 l2_7.length c2_7) ∧ w27.cell? ⟨gb624, 8, none⟩ = some (.bool a2_8) := hS_
     refine norm_ (a' := ?_) ?_ ?_
     rotate_left
     · simp only [putAll, Act.put, List.setIfInBounds_toArray, List.set_cons_zero, List.set_cons_succ]
       rfl
     refine pure_ (i := 10) (N := some 7) (v := ?_) (a' := ?_) #[true, true, true, true, true, true, true, true, true, true, true, false] rfl rfl (any_of HT_.out (by kernel_rfl)) (fun _ _ _ h => h) (Or.inl ⟨by rfl, ?_⟩) ?_ ?_
     rotate_left
     · intro w'
       go_simp
       with_reducible rfl
     rotate_left
     · simp only [Act.put, List.setIfInBounds_toArray, List.set_cons_zero, List.set_cons_succ, i64_w, i32_w]
       rfl
     refine one_ (i := 11) (N := none) #[true, true, true, true, true, true, true, true, true, true, true, true] rfl rfl (one_of HT_.out (by kernel_rfl)) (by decide) (fun K hK => ?_)
     have hs28 : w27.cell? ⟨gb642, 0, none⟩ = some (.int .i64 0) := (blk_cell BK642.out 0).trans rfl
     have hfs28 := blk_frozen BK642.out 0
     have hns28_0 := NB623_642.out
     have hns28_1 := NB624_642.out
     have hms28_0 := NB642_623.out
     have hms28_1 := NB642_624.out
     have hs29 : w27.cell? ⟨gb642, 1, none⟩ = some (.int .i64 0) := (blk_cell BK642.out 1).trans rfl
     have hfs29 := blk_frozen BK642.out 1
     have hns29_0 := NB623_642.out
     have hns29_1 := NB624_642.out
     have hms29_0 := NB642_623.out
     have hms29_1 := NB642_624.out
     have hs30 : w27.cell? ⟨gb642, 2, none⟩ = some (.int .i64 0) := (blk_cell BK642.out 2).trans rfl
     have hfs30 := blk_frozen BK642.out 2
     have hns30_0 := NB623_642.out
     have hns30_1 := NB624_642.out
     have hms30_0 := NB642_623.out
     have hms30_1 := NB642_624.out
     have hs31 : w27.cell? ⟨gb642, 3, none⟩ = some (.int .i64 0) := (blk_cell BK642.out 3).trans rfl
     have hfs31 := blk_frozen BK642.out 3
     have hns31_0 := NB623_642.out
     have hns31_1 := NB624_642.out
     have hms31_0 := NB642_623.out
     have hms31_1 := NB642_624.out
     have hs32 : w27.cell? ⟨gb642, 4, none⟩ = some (.int .i64 0) := (blk_cell BK642.out 4).trans rfl
     have hfs32 := blk_frozen BK642.out 4
     have hns32_0 := NB623_642.out
     have hns32_1 := NB624_642.out
     have hms32_0 := NB642_623.out
     have hms32_1 := NB642_624.out
     have hs33 : w27.cell? ⟨gb642, 5, none⟩ = some (.int .i64 0) := (blk_cell BK642.out 5).trans rfl
     have hfs33 := blk_frozen BK642.out 5
     have hns33_0 := NB623_642.out
     have hns33_1 := NB624_642.out
     have hms33_0 := NB642_623.out
     have hms33_1 := NB642_624.out
     have hs34 : w27.cell? ⟨gb642, 6, none⟩ = some (.int .i64 0) := (blk_cell BK642.out 6).trans rfl
     have hfs34 := blk_frozen BK642.out 6
     have hns34_0 := NB623_642.out
     have hns34_1 := NB624_642.out
     have hms34_0 := NB642_623.out
     have hms34_1 := NB642_624.out
     refine skip_ (w1 := ?_) (by rfl) rfl ?_ ?_
     rotate_left
     · go_simp
       rfl
     refine hK.out _ _ ⟨((cell_far (p := ⟨gb642, _, none⟩) NB623_642.out _).trans (((cell_far (p := ⟨gb642, _, none⟩) NB623_642.out _).trans (((cell_far (p := ⟨gb642, _, none⟩) NB623_642.out _).trans (((cell_far (p := ⟨gb642, _, none⟩) NB623_642.out _).trans (((cell_far (p := ⟨gb642, _, none⟩) NB623_642.out _).trans (((cell_far (p := ⟨gb642, _, none⟩) NB623_642.out _).trans (((cell_far (p := ⟨gb642, _, none⟩) NB623_642.out _).trans (hHeld.1)))))))))))))), ((cell_far (p := ⟨gb642, _, none⟩) NB623_642.out _).trans (((cell_far (p := ⟨gb642, _, none⟩) NB623_642.out _).trans (((cell_far (p := ⟨gb642, _, none⟩) NB623_642.out _).trans (((cell_far (p := ⟨gb642, _, none⟩) NB623_642.out _).trans (((cell_far (p := ⟨gb642, _, none⟩) NB623_642.out _).trans (((cell_far (p := ⟨gb642, _, none⟩) NB623_642.out _).trans (((cell_far (p := ⟨gb642, _, none⟩) NB623_642.out _).trans (hHeld.2.1)))))))))))))), ((cell_far (p := ⟨gb642, _, none⟩) NB624_642.out _).trans (((cell_far (p := ⟨gb642, _, none⟩) NB624_642.out _).trans (((cell_far (p := ⟨gb642, _, none⟩) NB624_642.out _).trans (((cell_far (p := ⟨gb642, _, none⟩) NB624_642.out _).trans (((cell_far (p := ⟨gb642, _, none⟩) NB624_642.out _).trans (((cell_far (p := ⟨gb642, _, none⟩) NB624_642.out _).trans (((cell_far (p := ⟨gb642, _, none⟩) NB624_642.out _).trans (hHeld.2.2.1)))))))))))))), ((cell_far (p := ⟨gb642, _, none⟩) NB624_642.out _).trans (((cell_far (p := ⟨gb642, _, none⟩) NB624_642.out _).trans (((cell_far (p := ⟨gb642, _, none⟩) NB624_642.out _).trans (((cell_far (p := ⟨gb642, _, none⟩) NB624_642.out _).trans (((cell_far (p := ⟨gb642, _, none⟩) NB624_642.out _).trans (((cell_far (p := ⟨gb642, _, none⟩) NB624_642.out _).trans (((cell_far (p := ⟨gb642, _, none⟩) NB624_642.out _).trans (hHeld.2.2.2.1)))))))))))))), ((cell_far (p := ⟨gb642, _, none⟩) NB624_642.out _).trans (((cell_far (p := ⟨gb642, _, none⟩) NB624_642.out _).trans (((cell_far (p := ⟨gb642, _, none⟩) NB624_642.out _).trans (((cell_far (p := ⟨gb642, _, none⟩) NB624_642.out _).trans (((cell_far (p := ⟨gb642, _, none⟩) NB624_642.out _).trans (((cell_far (p := ⟨gb642, _, none⟩) NB624_642.out _).trans (((cell_far (p := ⟨gb642, _, none⟩) NB624_642.out _).trans (hHeld.2.2.2.2.1)))))))))))))), ((cell_far (p := ⟨gb642, _, none⟩) NB624_642.out _).trans (((cell_far (p := ⟨gb642, _, none⟩) NB624_642.out _).trans (((cell_far (p := ⟨gb642, _, none⟩) NB624_642.out _).trans (((cell_far (p := ⟨gb642, _, none⟩) NB624_642.out _).trans (((cell_far (p := ⟨gb642, _, none⟩) NB624_642.out _).trans (((cell_far (p := ⟨gb642, _, none⟩) NB624_642.out _).trans (((cell_far (p := ⟨gb642, _, none⟩) NB624_642.out _).trans (hHeld.2.2.2.2.2.1)))))))))))))), ((cell_far (p := ⟨gb642, _, none⟩) NB624_642.out _).trans (((cell_far (p := ⟨gb642, _, none⟩) NB624_642.out _).trans (((cell_far (p := ⟨gb642, _, none⟩) NB624_642.out _).trans (((cell_far (p := ⟨gb642, _, none⟩) NB624_642.out _).trans (((cell_far (p := ⟨gb642, _, none⟩) NB624_642.out _).trans (((cell_far (p := ⟨gb642, _, none⟩) NB624_642.out _).trans (((cell_far (p := ⟨gb642, _, none⟩) NB624_642.out _).trans (hHeld.2.2.2.2.2.2.1)))))))))))))), ((cell_far (p := ⟨gb642, _, none⟩) NB624_642.out _).trans (((cell_far (p := ⟨gb642, _, none⟩) NB624_642.out _).trans (((cell_far (p := ⟨gb642, _, none⟩) NB624_642.out _).trans (((cell_far (p := ⟨gb642, _, none⟩) NB624_642.out _).trans (((cell_far (p := ⟨gb642, _, none⟩) NB624_642.out _).trans (((cell_far (p := ⟨gb642, _, none⟩) NB624_642.out _).trans (((cell_far (p := ⟨gb642, _, none⟩) NB624_642.out _).trans (hHeld.2.2.2.2.2.2.2.1)))))))))))))), ((cell_far (p := ⟨gb642, _, none⟩) NB624_642.out _).trans (((cell_far (p := ⟨gb642, _, none⟩) NB624_642.out _).trans (((cell_far (p := ⟨gb642, _, none⟩) NB624_642.out _).trans (((cell_far (p := ⟨gb642, _, none⟩) NB624_642.out _).trans (((cell_far (p := ⟨gb642, _, none⟩) NB624_642.out _).trans (((cell_far (p := ⟨gb642, _, none⟩) NB624_642.out _).trans (((cell_far (p := ⟨gb642, _, none⟩) NB624_642.out _).trans (hHeld.2.2.2.2.2.2.2.2.1)))))))))))))), ((cell_far (p := ⟨gb642, _, none⟩) NB624_642.out _).trans (((cell_far (p := ⟨gb642, _, none⟩) NB624_642.out _).trans (((cell_far (p := ⟨gb642, _, none⟩) NB624_642.out _).trans (((cell_far (p := ⟨gb642, _, none⟩) NB624_642.out _).trans (((cell_far (p := ⟨gb642, _, none⟩) NB624_642.out _).trans (((cell_far (p := ⟨gb642, _, none⟩) NB624_642.out _).trans (((cell_far (p := ⟨gb642, _, none⟩) NB624_642.out _).trans (hHeld.2.2.2.2.2.2.2.2.2.1)))))))))))))), ((cell_far (p := ⟨gb642, _, none⟩) NB624_642.out _).trans (((cell_far (p := ⟨gb642, _, none⟩) NB624_642.out _).trans (((cell_far (p := ⟨gb642, _, none⟩) NB624_642.out _).trans (((cell_far (p := ⟨gb642, _, none⟩) NB624_642.out _).trans (((cell_far (p := ⟨gb642, _, none⟩) NB624_642.out _).trans (((cell_far (p := ⟨gb642, _, none⟩) NB624_642.out _).trans (((cell_far (p := ⟨gb642, _, none⟩) NB624_642.out _).trans (hHeld.2.2.2.2.2.2.2.2.2.2))))))))))))))⟩ (fun hHeld => ?_)
     clear hK K
     refine done_ (done_of HT_.out (by kernel_rfl)) ?_
     have hnb35 := NB623_624.out
     have hnc35 := NB624_623.out
     have hnb36 := NB623_642.out
     have hnc36 := NB642_623.out
     refine blk2_ BK623.out fun hcz37_0 hcz37_1 hfz37_0 hfz37_1 => ?_
     have hnb38 := NB624_642.out
     have hnc38 := NB642_624.out
     refine blk9_ BK624.out fun hcz39_0 hcz39_1 hcz39_2 hcz39_3 hcz39_4 hcz39_5 hcz39_6 hcz39_7 hcz39_8 hfz39_0 hfz39_1 hfz39_2 hfz39_3 hfz39_4 hfz39_5 hfz39_6 hfz39_7 hfz39_8 => ?_
     refine blk7_ BK642.out fun hcz40_0 hcz40_1 hcz40_2 hcz40_3 hcz40_4 hcz40_5 hcz40_6 hfz40_0 hfz40_1 hfz40_2 hfz40_3 hfz40_4 hfz40_5 hfz40_6 => ?_
     try go_wp2_with (first | ((with_reducible refine gate_dst (N := 9) rfl ?_); (try (refine gate_guard (by rfl) ?_; dsimp only)); refine alloc_store_event ?hg1 (N := 9) ?hd1 ?hg2 ?hd2 ?ho2 (cs0 := #[.int .i64 0, .int .i64 0, .int .i64 0, .int .i64 0, .int .i64 0, .int .i64 0, .int .i64 0, .int .i64 0, .int .i64 0, .int .i64 0, .int .i64 0, .int .i64 0, .int .i64 0, .slice none 0 0, .slice none 0 0, .bool false, .int .i64 0, .int .i64 0, .int .i64 0, .int .i64 0, .int .i64 0, .int .i64 0, .int .i64 0, .int .i64 0, .bool false]) (cs := #[.int .i64 a1_0, .int .i64 a1_1, .int .i64 1, .int .i64 0, .int .i64 0, .int .i64 0, .int .i64 0, .int .i64 a2_0, .int .i64 a2_1, .int .i64 a2_2, .int .i64 a2_3, .int .i64 a2_4, .int .i64 a2_5, .slice A2_6 l2_6.length c2_6, .slice A2_7 l2_7.length c2_7, .bool a2_8, .int .i64 t634, .int .i64 t635, .int .i64 t636, .int .i64 t637, .int .i64 t638, .int .i64 t639, .int .i64 t640, .int .i64 t641, .bool false]) (t := 44) (x := ?xxw41) ?hr ?hp ?hx ?hs ?h1 ?ht ?_; (case hg1 => rfl); (case hd1 => rfl); (case hg2 => rfl); (case hd2 => rfl); (case ho2 => rfl); (case hr => first | (go_simp; done) | (go_simp; rfl)); (case hp => rfl); (case hx => rfl); (case hs => rfl); (case h1 => rfl); (case ht => kernel_rfl); intro gb643 hg w41 hbox hb; have n0_ := Aside0.mk (Kd.V_below (Kd.V_elderB (by (with_reducible repeat (first | apply Kd.V_alloc | apply Kd.V_drewN | apply Kd.V_drew)); exact (Kd.V_mono (Kd.V_far (p := ⟨gb642, 6, none⟩) (Kd.V_far (p := ⟨gb642, 5, none⟩) (Kd.V_far (p := ⟨gb642, 4, none⟩) (Kd.V_far (p := ⟨gb642, 3, none⟩) (Kd.V_far (p := ⟨gb642, 2, none⟩) (Kd.V_far (p := ⟨gb642, 1, none⟩) (Kd.V_far (p := ⟨gb642, 0, none⟩) (Kd.V_mono HO_625006.out (fun k_ hk => (⟨hk, hk.2.2.2.2⟩ : _ ∧ k_ ≠ gb642))) (fun _ hk => hk.2) (.int .i64 t635)) (fun _ hk => hk.2) (.int .i64 t636)) (fun _ hk => hk.2) (.int .i64 t637)) (fun _ hk => hk.2) (.int .i64 t638)) (fun _ hk => hk.2) (.int .i64 t639)) (fun _ hk => hk.2) (.int .i64 t640)) (fun _ hk => hk.2) (.int .i64 t641)) (fun _ h_ => h_.1))) gb643 (Nat.le_of_eq hg.symm)) hb); have n1_ := Aside0.mk (Kd.V_below (Kd.V_elderB (by (with_reducible repeat (first | apply Kd.V_alloc | apply Kd.V_drewN | apply Kd.V_drew)); exact (Kd.V_mono (Kd.V_far (p := ⟨gb642, 6, none⟩) (Kd.V_far (p := ⟨gb642, 5, none⟩) (Kd.V_far (p := ⟨gb642, 4, none⟩) (Kd.V_far (p := ⟨gb642, 3, none⟩) (Kd.V_far (p := ⟨gb642, 2, none⟩) (Kd.V_far (p := ⟨gb642, 1, none⟩) (Kd.V_far (p := ⟨gb642, 0, none⟩) (Kd.V_mono HO_625007.out (fun k_ hk => (⟨hk, hk.2.2.2.2⟩ : _ ∧ k_ ≠ gb642))) (fun _ hk => hk.2) (.int .i64 t635)) (fun _ hk => hk.2) (.int .i64 t636)) (fun _ hk => hk.2) (.int .i64 t637)) (fun _ hk => hk.2) (.int .i64 t638)) (fun _ hk => hk.2) (.int .i64 t639)) (fun _ hk => hk.2) (.int .i64 t640)) (fun _ hk => hk.2) (.int .i64 t641)) (fun _ h_ => h_.1))) gb643 (Nat.le_of_eq hg.symm)) hb); have n2_ := Aside0.mk (Kd.N_below (Kd.N_elderB (by (with_reducible repeat (first | apply Kd.N_alloc | apply Kd.N_drewN | apply Kd.N_drew)); exact (Kd.N_mono (Kd.N_far (p := ⟨gb642, 6, none⟩) (Kd.N_far (p := ⟨gb642, 5, none⟩) (Kd.N_far (p := ⟨gb642, 4, none⟩) (Kd.N_far (p := ⟨gb642, 3, none⟩) (Kd.N_far (p := ⟨gb642, 2, none⟩) (Kd.N_far (p := ⟨gb642, 1, none⟩) (Kd.N_far (p := ⟨gb642, 0, none⟩) (Kd.N_mono HO633.out (fun k_ hk => (⟨hk, hk.2.2.2⟩ : _ ∧ k_ ≠ gb642))) (fun _ hk => hk.2) (.int .i64 t635)) (fun _ hk => hk.2) (.int .i64 t636)) (fun _ hk => hk.2) (.int .i64 t637)) (fun _ hk => hk.2) (.int .i64 t638)) (fun _ hk => hk.2) (.int .i64 t639)) (fun _ hk => hk.2) (.int .i64 t640)) (fun _ hk => hk.2) (.int .i64 t641)) (fun _ h_ => h_.1))) gb643 (Nat.le_of_eq hg.symm)) hb); have n3_ := Aside0.mk (blk_below (g := gb623) (o := .cells #[.int .i64 a1_0, .int .i64 a1_1] 24 (0, 0)) (by (with_reducible repeat (first | refine blk_drewN ?_ _ | refine blk_drew ?_ | refine blk_alloc ?_ _)); refine blk_far ?_ NB623_642.out _; (with_reducible repeat (first | refine blk_drewN ?_ _ | refine blk_drew ?_ | refine blk_alloc ?_ _)); refine blk_far ?_ NB623_642.out _; (with_reducible repeat (first | refine blk_drewN ?_ _ | refine blk_drew ?_ | refine blk_alloc ?_ _)); refine blk_far ?_ NB623_642.out _; (with_reducible repeat (first | refine blk_drewN ?_ _ | refine blk_drew ?_ | refine blk_alloc ?_ _)); refine blk_far ?_ NB623_642.out _; (with_reducible repeat (first | refine blk_drewN ?_ _ | refine blk_drew ?_ | refine blk_alloc ?_ _)); refine blk_far ?_ NB623_642.out _; (with_reducible repeat (first | refine blk_drewN ?_ _ | refine blk_drew ?_ | refine blk_alloc ?_ _)); refine blk_far ?_ NB623_642.out _; (with_reducible repeat (first | refine blk_drewN ?_ _ | refine blk_drew ?_ | refine blk_alloc ?_ _)); refine blk_far ?_ NB623_642.out _; (with_reducible repeat (first | refine blk_drewN ?_ _ | refine blk_drew ?_ | refine blk_alloc ?_ _)); exact BK623.out) hb); have n4_ := Aside0.mk (blk_below (g := gb624) (o := .cells #[.int .i64 a2_0, .int .i64 a2_1, .int .i64 a2_2, .int .i64 a2_3, .int .i64 a2_4, .int .i64 a2_5, .slice A2_6 l2_6.length c2_6, .slice A2_7 l2_7.length c2_7, .bool a2_8] 32 (0, 0)) (by (with_reducible repeat (first | refine blk_drewN ?_ _ | refine blk_drew ?_ | refine blk_alloc ?_ _)); refine blk_far ?_ NB624_642.out _; (with_reducible repeat (first | refine blk_drewN ?_ _ | refine blk_drew ?_ | refine blk_alloc ?_ _)); refine blk_far ?_ NB624_642.out _; (with_reducible repeat (first | refine blk_drewN ?_ _ | refine blk_drew ?_ | refine blk_alloc ?_ _)); refine blk_far ?_ NB624_642.out _; (with_reducible repeat (first | refine blk_drewN ?_ _ | refine blk_drew ?_ | refine blk_alloc ?_ _)); refine blk_far ?_ NB624_642.out _; (with_reducible repeat (first | refine blk_drewN ?_ _ | refine blk_drew ?_ | refine blk_alloc ?_ _)); refine blk_far ?_ NB624_642.out _; (with_reducible repeat (first | refine blk_drewN ?_ _ | refine blk_drew ?_ | refine blk_alloc ?_ _)); refine blk_far ?_ NB624_642.out _; (with_reducible repeat (first | refine blk_drewN ?_ _ | refine blk_drew ?_ | refine blk_alloc ?_ _)); refine blk_far ?_ NB624_642.out _; (with_reducible repeat (first | refine blk_drewN ?_ _ | refine blk_drew ?_ | refine blk_alloc ?_ _)); exact BK624.out) hb); have n5_ := Aside0.mk (blk_below (g := gb642) (o := .cells #[.int .i64 t635, .int .i64 t636, .int .i64 t637, .int .i64 t638, .int .i64 t639, .int .i64 t640, .int .i64 t641] 42 (0, 0)) (by (with_reducible repeat (first | refine blk_drewN ?_ _ | refine blk_drew ?_ | refine blk_alloc ?_ _)); refine blk_put (cs := #[.int .i64 t635, .int .i64 t636, .int .i64 t637, .int .i64 t638, .int .i64 t639, .int .i64 t640, .int .i64 0]) ?_ 6 _ rfl; (with_reducible repeat (first | refine blk_drewN ?_ _ | refine blk_drew ?_ | refine blk_alloc ?_ _)); refine blk_put (cs := #[.int .i64 t635, .int .i64 t636, .int .i64 t637, .int .i64 t638, .int .i64 t639, .int .i64 0, .int .i64 0]) ?_ 5 _ rfl; (with_reducible repeat (first | refine blk_drewN ?_ _ | refine blk_drew ?_ | refine blk_alloc ?_ _)); refine blk_put (cs := #[.int .i64 t635, .int .i64 t636, .int .i64 t637, .int .i64 t638, .int .i64 0, .int .i64 0, .int .i64 0]) ?_ 4 _ rfl; (with_reducible repeat (first | refine blk_drewN ?_ _ | refine blk_drew ?_ | refine blk_alloc ?_ _)); refine blk_put (cs := #[.int .i64 t635, .int .i64 t636, .int .i64 t637, .int .i64 0, .int .i64 0, .int .i64 0, .int .i64 0]) ?_ 3 _ rfl; (with_reducible repeat (first | refine blk_drewN ?_ _ | refine blk_drew ?_ | refine blk_alloc ?_ _)); refine blk_put (cs := #[.int .i64 t635, .int .i64 t636, .int .i64 0, .int .i64 0, .int .i64 0, .int .i64 0, .int .i64 0]) ?_ 2 _ rfl; (with_reducible repeat (first | refine blk_drewN ?_ _ | refine blk_drew ?_ | refine blk_alloc ?_ _)); refine blk_put (cs := #[.int .i64 t635, .int .i64 0, .int .i64 0, .int .i64 0, .int .i64 0, .int .i64 0, .int .i64 0]) ?_ 1 _ rfl; (with_reducible repeat (first | refine blk_drewN ?_ _ | refine blk_drew ?_ | refine blk_alloc ?_ _)); refine blk_put (cs := #[.int .i64 0, .int .i64 0, .int .i64 0, .int .i64 0, .int .i64 0, .int .i64 0, .int .i64 0]) ?_ 0 _ rfl; (with_reducible repeat (first | refine blk_drewN ?_ _ | refine blk_drew ?_ | refine blk_alloc ?_ _)); exact BK642.out) hb); have n6_ := Aside0.mk (below_step (by repeat (first | (with_reducible first | exact HB.out | apply below_alloc | apply pw_below_drewN | apply below_drew1 | refine below_set ?_ GE623.out | refine below_set ?_ GE624.out | refine below_set ?_ GE642.out) | exact HB.out)) hb); have n7_ := Aside0.mk (hbox); have n8_ := Aside0.mk ((by rw [hg]; exact (below_size (by repeat (first | (with_reducible first | exact HB.out | apply below_alloc | apply pw_below_drewN | apply below_drew1 | refine below_set ?_ GE623.out | refine below_set ?_ GE624.out | refine below_set ?_ GE642.out) | exact HB.out))) : w.heap.size ≤ gb643)); have n9_ := Aside0.mk ((by rw [hg]; exact (below_size (by repeat (first | (with_reducible first | exact HB.out | apply below_alloc | apply pw_below_drewN | apply below_drew1 | refine below_set ?_ GE623.out | refine below_set ?_ GE624.out | refine below_set ?_ GE642.out) | exact HB.out))) : w.heap.size ≤ gb643)); have n10_ := Aside0.mk ((by rw [hg]; exact Nat.ne_of_lt (blk_lt (g := gb623) (o := .cells #[.int .i64 a1_0, .int .i64 a1_1] 24 (0, 0)) (by (with_reducible repeat (first | refine blk_drewN ?_ _ | refine blk_drew ?_ | refine blk_alloc ?_ _)); refine blk_far ?_ NB623_642.out _; (with_reducible repeat (first | refine blk_drewN ?_ _ | refine blk_drew ?_ | refine blk_alloc ?_ _)); refine blk_far ?_ NB623_642.out _; (with_reducible repeat (first | refine blk_drewN ?_ _ | refine blk_drew ?_ | refine blk_alloc ?_ _)); refine blk_far ?_ NB623_642.out _; (with_reducible repeat (first | refine blk_drewN ?_ _ | refine blk_drew ?_ | refine blk_alloc ?_ _)); refine blk_far ?_ NB623_642.out _; (with_reducible repeat (first | refine blk_drewN ?_ _ | refine blk_drew ?_ | refine blk_alloc ?_ _)); refine blk_far ?_ NB623_642.out _; (with_reducible repeat (first | refine blk_drewN ?_ _ | refine blk_drew ?_ | refine blk_alloc ?_ _)); refine blk_far ?_ NB623_642.out _; (with_reducible repeat (first | refine blk_drewN ?_ _ | refine blk_drew ?_ | refine blk_alloc ?_ _)); refine blk_far ?_ NB623_642.out _; (with_reducible repeat (first | refine blk_drewN ?_ _ | refine blk_drew ?_ | refine blk_alloc ?_ _)); exact BK623.out)) : gb623 ≠ gb643)); have n11_ := Aside0.mk ((by rw [hg]; exact Nat.ne_of_gt (blk_lt (g := gb623) (o := .cells #[.int .i64 a1_0, .int .i64 a1_1] 24 (0, 0)) (by (with_reducible repeat (first | refine blk_drewN ?_ _ | refine blk_drew ?_ | refine blk_alloc ?_ _)); refine blk_far ?_ NB623_642.out _; (with_reducible repeat (first | refine blk_drewN ?_ _ | refine blk_drew ?_ | refine blk_alloc ?_ _)); refine blk_far ?_ NB623_642.out _; (with_reducible repeat (first | refine blk_drewN ?_ _ | refine blk_drew ?_ | refine blk_alloc ?_ _)); refine blk_far ?_ NB623_642.out _; (with_reducible repeat (first | refine blk_drewN ?_ _ | refine blk_drew ?_ | refine blk_alloc ?_ _)); refine blk_far ?_ NB623_642.out _; (with_reducible repeat (first | refine blk_drewN ?_ _ | refine blk_drew ?_ | refine blk_alloc ?_ _)); refine blk_far ?_ NB623_642.out _; (with_reducible repeat (first | refine blk_drewN ?_ _ | refine blk_drew ?_ | refine blk_alloc ?_ _)); refine blk_far ?_ NB623_642.out _; (with_reducible repeat (first | refine blk_drewN ?_ _ | refine blk_drew ?_ | refine blk_alloc ?_ _)); refine blk_far ?_ NB623_642.out _; (with_reducible repeat (first | refine blk_drewN ?_ _ | refine blk_drew ?_ | refine blk_alloc ?_ _)); exact BK623.out)) : gb643 ≠ gb623)); have n12_ := Aside0.mk ((by rw [hg]; exact Nat.ne_of_lt (blk_lt (g := gb624) (o := .cells #[.int .i64 a2_0, .int .i64 a2_1, .int .i64 a2_2, .int .i64 a2_3, .int .i64 a2_4, .int .i64 a2_5, .slice A2_6 l2_6.length c2_6, .slice A2_7 l2_7.length c2_7, .bool a2_8] 32 (0, 0)) (by (with_reducible repeat (first | refine blk_drewN ?_ _ | refine blk_drew ?_ | refine blk_alloc ?_ _)); refine blk_far ?_ NB624_642.out _; (with_reducible repeat (first | refine blk_drewN ?_ _ | refine blk_drew ?_ | refine blk_alloc ?_ _)); refine blk_far ?_ NB624_642.out _; (with_reducible repeat (first | refine blk_drewN ?_ _ | refine blk_drew ?_ | refine blk_alloc ?_ _)); refine blk_far ?_ NB624_642.out _; (with_reducible repeat (first | refine blk_drewN ?_ _ | refine blk_drew ?_ | refine blk_alloc ?_ _)); refine blk_far ?_ NB624_642.out _; (with_reducible repeat (first | refine blk_drewN ?_ _ | refine blk_drew ?_ | refine blk_alloc ?_ _)); refine blk_far ?_ NB624_642.out _; (with_reducible repeat (first | refine blk_drewN ?_ _ | refine blk_drew ?_ | refine blk_alloc ?_ _)); refine blk_far ?_ NB624_642.out _; (with_reducible repeat (first | refine blk_drewN ?_ _ | refine blk_drew ?_ | refine blk_alloc ?_ _)); refine blk_far ?_ NB624_642.out _; (with_reducible repeat (first | refine blk_drewN ?_ _ | refine blk_drew ?_ | refine blk_alloc ?_ _)); exact BK624.out)) : gb624 ≠ gb643)); have n13_ := Aside0.mk ((by rw [hg]; exact Nat.ne_of_gt (blk_lt (g := gb624) (o := .cells #[.int .i64 a2_0, .int .i64 a2_1, .int .i64 a2_2, .int .i64 a2_3, .int .i64 a2_4, .int .i64 a2_5, .slice A2_6 l2_6.length c2_6, .slice A2_7 l2_7.length c2_7, .bool a2_8] 32 (0, 0)) (by (with_reducible repeat (first | refine blk_drewN ?_ _ | refine blk_drew ?_ | refine blk_alloc ?_ _)); refine blk_far ?_ NB624_642.out _; (with_reducible repeat (first | refine blk_drewN ?_ _ | refine blk_drew ?_ | refine blk_alloc ?_ _)); refine blk_far ?_ NB624_642.out _; (with_reducible repeat (first | refine blk_drewN ?_ _ | refine blk_drew ?_ | refine blk_alloc ?_ _)); refine blk_far ?_ NB624_642.out _; (with_reducible repeat (first | refine blk_drewN ?_ _ | refine blk_drew ?_ | refine blk_alloc ?_ _)); refine blk_far ?_ NB624_642.out _; (with_reducible repeat (first | refine blk_drewN ?_ _ | refine blk_drew ?_ | refine blk_alloc ?_ _)); refine blk_far ?_ NB624_642.out _; (with_reducible repeat (first | refine blk_drewN ?_ _ | refine blk_drew ?_ | refine blk_alloc ?_ _)); refine blk_far ?_ NB624_642.out _; (with_reducible repeat (first | refine blk_drewN ?_ _ | refine blk_drew ?_ | refine blk_alloc ?_ _)); refine blk_far ?_ NB624_642.out _; (with_reducible repeat (first | refine blk_drewN ?_ _ | refine blk_drew ?_ | refine blk_alloc ?_ _)); exact BK624.out)) : gb643 ≠ gb624)); have n14_ := Aside0.mk ((by rw [hg]; exact Nat.ne_of_lt (blk_lt (g := gb642) (o := .cells #[.int .i64 t635, .int .i64 t636, .int .i64 t637, .int .i64 t638, .int .i64 t639, .int .i64 t640, .int .i64 t641] 42 (0, 0)) (by (with_reducible repeat (first | refine blk_drewN ?_ _ | refine blk_drew ?_ | refine blk_alloc ?_ _)); refine blk_put (cs := #[.int .i64 t635, .int .i64 t636, .int .i64 t637, .int .i64 t638, .int .i64 t639, .int .i64 t640, .int .i64 0]) ?_ 6 _ rfl; (with_reducible repeat (first | refine blk_drewN ?_ _ | refine blk_drew ?_ | refine blk_alloc ?_ _)); refine blk_put (cs := #[.int .i64 t635, .int .i64 t636, .int .i64 t637, .int .i64 t638, .int .i64 t639, .int .i64 0, .int .i64 0]) ?_ 5 _ rfl; (with_reducible repeat (first | refine blk_drewN ?_ _ | refine blk_drew ?_ | refine blk_alloc ?_ _)); refine blk_put (cs := #[.int .i64 t635, .int .i64 t636, .int .i64 t637, .int .i64 t638, .int .i64 0, .int .i64 0, .int .i64 0]) ?_ 4 _ rfl; (with_reducible repeat (first | refine blk_drewN ?_ _ | refine blk_drew ?_ | refine blk_alloc ?_ _)); refine blk_put (cs := #[.int .i64 t635, .int .i64 t636, .int .i64 t637, .int .i64 0, .int .i64 0, .int .i64 0, .int .i64 0]) ?_ 3 _ rfl; (with_reducible repeat (first | refine blk_drewN ?_ _ | refine blk_drew ?_ | refine blk_alloc ?_ _)); refine blk_put (cs := #[.int .i64 t635, .int .i64 t636, .int .i64 0, .int .i64 0, .int .i64 0, .int .i64 0, .int .i64 0]) ?_ 2 _ rfl; (with_reducible repeat (first | refine blk_drewN ?_ _ | refine blk_drew ?_ | refine blk_alloc ?_ _)); refine blk_put (cs := #[.int .i64 t635, .int .i64 0, .int .i64 0, .int .i64 0, .int .i64 0, .int .i64 0, .int .i64 0]) ?_ 1 _ rfl; (with_reducible repeat (first | refine blk_drewN ?_ _ | refine blk_drew ?_ | refine blk_alloc ?_ _)); refine blk_put (cs := #[.int .i64 0, .int .i64 0, .int .i64 0, .int .i64 0, .int .i64 0, .int .i64 0, .int .i64 0]) ?_ 0 _ rfl; (with_reducible repeat (first | refine blk_drewN ?_ _ | refine blk_drew ?_ | refine blk_alloc ?_ _)); exact BK642.out)) : gb642 ≠ gb643)); have n15_ := Aside0.mk ((by rw [hg]; exact Nat.ne_of_gt (blk_lt (g := gb642) (o := .cells #[.int .i64 t635, .int .i64 t636, .int .i64 t637, .int .i64 t638, .int .i64 t639, .int .i64 t640, .int .i64 t641] 42 (0, 0)) (by (with_reducible repeat (first | refine blk_drewN ?_ _ | refine blk_drew ?_ | refine blk_alloc ?_ _)); refine blk_put (cs := #[.int .i64 t635, .int .i64 t636, .int .i64 t637, .int .i64 t638, .int .i64 t639, .int .i64 t640, .int .i64 0]) ?_ 6 _ rfl; (with_reducible repeat (first | refine blk_drewN ?_ _ | refine blk_drew ?_ | refine blk_alloc ?_ _)); refine blk_put (cs := #[.int .i64 t635, .int .i64 t636, .int .i64 t637, .int .i64 t638, .int .i64 t639, .int .i64 0, .int .i64 0]) ?_ 5 _ rfl; (with_reducible repeat (first | refine blk_drewN ?_ _ | refine blk_drew ?_ | refine blk_alloc ?_ _)); refine blk_put (cs := #[.int .i64 t635, .int .i64 t636, .int .i64 t637, .int .i64 t638, .int .i64 0, .int .i64 0, .int .i64 0]) ?_ 4 _ rfl; (with_reducible repeat (first | refine blk_drewN ?_ _ | refine blk_drew ?_ | refine blk_alloc ?_ _)); refine blk_put (cs := #[.int .i64 t635, .int .i64 t636, .int .i64 t637, .int .i64 0, .int .i64 0, .int .i64 0, .int .i64 0]) ?_ 3 _ rfl; (with_reducible repeat (first | refine blk_drewN ?_ _ | refine blk_drew ?_ | refine blk_alloc ?_ _)); refine blk_put (cs := #[.int .i64 t635, .int .i64 t636, .int .i64 0, .int .i64 0, .int .i64 0, .int .i64 0, .int .i64 0]) ?_ 2 _ rfl; (with_reducible repeat (first | refine blk_drewN ?_ _ | refine blk_drew ?_ | refine blk_alloc ?_ _)); refine blk_put (cs := #[.int .i64 t635, .int .i64 0, .int .i64 0, .int .i64 0, .int .i64 0, .int .i64 0, .int .i64 0]) ?_ 1 _ rfl; (with_reducible repeat (first | refine blk_drewN ?_ _ | refine blk_drew ?_ | refine blk_alloc ?_ _)); refine blk_put (cs := #[.int .i64 0, .int .i64 0, .int .i64 0, .int .i64 0, .int .i64 0, .int .i64 0, .int .i64 0]) ?_ 0 _ rfl; (with_reducible repeat (first | refine blk_drewN ?_ _ | refine blk_drew ?_ | refine blk_alloc ?_ _)); exact BK642.out)) : gb643 ≠ gb642)); clear HO_625006; clear HO_625007; clear HO633; clear BK623; clear BK624; clear BK642; clear HB; have HO_625006 := n0_; have HO_625007 := n1_; have HO633 := n2_; have BK623 := n3_; have BK624 := n4_; have BK642 := n5_; have HB := n6_; have BK643 := n7_; have GW643 := n8_; have GE643 := n9_; have NB623_643 := n10_; have NB643_623 := n11_; have NB624_643 := n12_; have NB643_624 := n13_; have NB642_643 := n14_; have NB643_642 := n15_; clear n0_ n1_ n2_ n3_ n4_ n5_ n6_ n7_ n8_ n9_ n10_ n11_ n12_ n13_ n14_ n15_; clear hb hbox hg))
     go_loopg [39] kj3 (fun kq v39 w' => ∃ (x39_2 : Int), v39 = .int .i64 x39_2 ∧ Aside0 (althinglaw11_IndexOrders.l0 kq l0 t634 l0 (l0.length : Int) x39_2 a1_0 a1_1 a2_0 a2_1 a2_2 a2_3 a2_4 a2_5 l2_6 l2_7 a2_8 t635 t636 t637 t638 t639 t640 t641 a1_0 a1_1 1 0 0 0 0 a2_0 a2_1 a2_2 a2_3 a2_4 a2_5 l2_6 l2_7 a2_8 t634 t635 t636 t637 t638 t639 t640 t641 false = some r) ∧ Aside0 (kq ≤ kj3) ∧ Aside0 (Kd.V k61 61 w' w.heap.size (fun k_ => ((P2_6_ k_ ∨ P2_7_ k_) ∨ w.heap.size ≤ k_) ∧ k_ ≠ gb623 ∧ k_ ≠ gb624 ∧ k_ ≠ gb642 ∧ k_ ≠ gb643) (.slice A2_6 l2_6.length c2_6) l2_6) ∧ Aside0 (Kd.V k46 46 w' w.heap.size (fun k_ => ((P2_6_ k_ ∨ P2_7_ k_) ∨ w.heap.size ≤ k_) ∧ k_ ≠ gb623 ∧ k_ ≠ gb624 ∧ k_ ≠ gb642 ∧ k_ ≠ gb643) (.slice A2_7 l2_7.length c2_7) l2_7) ∧ Aside0 (Kd.V k61 61 w' w.heap.size (fun k_ => ((P2_6_ k_ ∨ P2_7_ k_) ∨ w.heap.size ≤ k_) ∧ k_ ≠ gb623 ∧ k_ ≠ gb624 ∧ k_ ≠ gb642 ∧ k_ ≠ gb643) (.slice A2_6 l2_6.length c2_6) l2_6) ∧ Aside0 (Kd.V k46 46 w' w.heap.size (fun k_ => ((P2_6_ k_ ∨ P2_7_ k_) ∨ w.heap.size ≤ k_) ∧ k_ ≠ gb623 ∧ k_ ≠ gb624 ∧ k_ ≠ gb642 ∧ k_ ≠ gb643) (.slice A2_7 l2_7.length c2_7) l2_7) ∧ Aside0 (w'.heap[gb623]? = some (.cells #[.int .i64 a1_0, .int .i64 a1_1] 24 (0, 0))) ∧ Aside0 (w'.heap[gb624]? = some (.cells #[.int .i64 a2_0, .int .i64 a2_1, .int .i64 a2_2, .int .i64 a2_3, .int .i64 a2_4, .int .i64 a2_5, (.slice A2_6 l2_6.length c2_6), (.slice A2_7 l2_7.length c2_7), .bool a2_8] 32 (0, 0))) ∧ Aside0 (w'.heap[gb642]? = some (.cells #[.int .i64 t635, .int .i64 t636, .int .i64 t637, .int .i64 t638, .int .i64 t639, .int .i64 t640, .int .i64 t641] 42 (0, 0))) ∧ Aside0 (w'.heap[gb643]? = some (.cells #[.int .i64 a1_0, .int .i64 a1_1, .int .i64 1, .int .i64 0, .int .i64 0, .int .i64 0, .int .i64 0, .int .i64 a2_0, .int .i64 a2_1, .int .i64 a2_2, .int .i64 a2_3, .int .i64 a2_4, .int .i64 a2_5, (.slice A2_6 l2_6.length c2_6), (.slice A2_7 l2_7.length c2_7), .bool a2_8, .int .i64 t634, .int .i64 t635, .int .i64 t636, .int .i64 t637, .int .i64 t638, .int .i64 t639, .int .i64 t640, .int .i64 t641, .bool false] 44 (0, 0))) ∧ Aside0 (Below w.heap.size w w'))
     case atStart => exact ⟨(0), (by first | rfl | (simp; done) | (simp [*]; done)), H', ⟨Nat.le_refl _⟩, ⟨by (with_reducible repeat (first | apply Kd.V_alloc | apply Kd.V_drewN | apply Kd.V_drew)); exact Kd.V_mono HO_625006.out (fun _ hk => ⟨hk.1.1, ⟨hk.1.2.2.1, ⟨hk.1.2.2.2.1, ⟨hk.1.2.2.2.2, hk.2⟩⟩⟩⟩)⟩, ⟨by (with_reducible repeat (first | apply Kd.V_alloc | apply Kd.V_drewN | apply Kd.V_drew)); exact Kd.V_mono HO_625007.out (fun _ hk => ⟨hk.1.1, ⟨hk.1.2.2.1, ⟨hk.1.2.2.2.1, ⟨hk.1.2.2.2.2, hk.2⟩⟩⟩⟩)⟩, ⟨by (with_reducible repeat (first | apply Kd.V_alloc | apply Kd.V_drewN | apply Kd.V_drew)); exact Kd.V_mono HO_625006.out (fun _ hk => ⟨hk.1.1, ⟨hk.1.2.2.1, ⟨hk.1.2.2.2.1, ⟨hk.1.2.2.2.2, hk.2⟩⟩⟩⟩)⟩, ⟨by (with_reducible repeat (first | apply Kd.V_alloc | apply Kd.V_drewN | apply Kd.V_drew)); exact Kd.V_mono HO_625007.out (fun _ hk => ⟨hk.1.1, ⟨hk.1.2.2.1, ⟨hk.1.2.2.2.1, ⟨hk.1.2.2.2.2, hk.2⟩⟩⟩⟩)⟩, ⟨by (with_reducible repeat (first | refine blk_drewN ?_ _ | refine blk_drew ?_ | refine blk_alloc ?_ _)); exact BK623.out⟩, ⟨by (with_reducible repeat (first | refine blk_drewN ?_ _ | refine blk_drew ?_ | refine blk_alloc ?_ _)); exact BK624.out⟩, ⟨by (with_reducible repeat (first | refine blk_drewN ?_ _ | refine blk_drew ?_ | refine blk_alloc ?_ _)); exact BK642.out⟩, ⟨by (with_reducible repeat (first | refine blk_drewN ?_ _ | refine blk_drew ?_ | refine blk_alloc ?_ _)); exact BK643.out⟩, ⟨by repeat (first | (with_reducible first | exact HB.out | apply below_alloc | apply pw_below_drewN | apply below_drew1 | refine below_set ?_ GE623.out | refine below_set ?_ GE624.out | refine below_set ?_ GE642.out | refine below_set ?_ GE643.out) | exact HB.out)⟩⟩
     case round =>
      clear H'
      try clear c1
      try clear c2
      try clear p2
      try clear c3
      try clear c13
      try clear c21
      try clear c35
      try clear c36
      try clear c38
      try clear hcz37_0 hcz37_1
      try clear hcz39_0 hcz39_1 hcz39_2 hcz39_3 hcz39_4 hcz39_5 hcz39_6 hcz39_7 hcz39_8
      try clear hcz40_0 hcz40_1 hcz40_2 hcz40_3 hcz40_4 hcz40_5 hcz40_6
      try clear hfz37_0 hfz37_1
      try clear hfz39_0 hfz39_1 hfz39_2 hfz39_3 hfz39_4 hfz39_5 hfz39_6 hfz39_7 hfz39_8
      try clear hfz40_0 hfz40_1 hfz40_2 hfz40_3 hfz40_4 hfz40_5 hfz40_6
      (try clear BK623); (try clear BK624); (try clear BK642); (try clear BK643)
      obtain ⟨x39_2, rfl, HA, HK2, HO_625006, HO_625007, HO_644013, HO_644014, BK623, BK624, BK642, BK643, HB⟩ := hrel
      cases gk with
      | zero => exact absurd HA.out (by simp [althinglaw11_IndexOrders.l0])
      | succ k2 =>
       have H := HA.out
       clear HA
       simp only [althinglaw11_IndexOrders.l0] at H
       by_cases c42 : x39_2 < (l0.length : Int)
       · rw [if_pos c42] at H
         have c42b0 : decide (x39_2 < (l0.length : Int)) = true := decide_eq_true c42
         clear c42
         by_cases c43 : 0 ≤ x39_2
         · rw [if_pos c43] at H
           have c43b0 : decide (0 ≤ x39_2) = true := decide_eq_true c43
           clear c43
           by_cases c44 : x39_2 < (l0.length : Int)
           · rw [if_pos c44] at H
             have c44b0 : decide (x39_2 < (l0.length : Int)) = true := decide_eq_true c44
             clear c44
             have HC45 := Aside0.mk H
             clear H
             have p645 : 0 ≤ (x39_2 : Int) := of_decide_eq_true (by first | (with_reducible assumption) | assumption)
             have q645 : x39_2 < (l0.length : Int) := of_decide_eq_true (by first | (with_reducible assumption) | assumption)
             obtain ⟨ad645, A645_13, c645_13, A645_14, c645_14, e645, hx645_0, hx645_1, hx645_2, hx645_3, hx645_4, hx645_5, hx645_6, hx645_7, hx645_8, hx645_9, hx645_10, hx645_11, hx645_12, hx645_13, hx645_14, hx645_15, hx645_16, hx645_17, hx645_18, hx645_19, hx645_20, hx645_21, hx645_22, hx645_23, hx645_24, hl645_13, hi645_13, hl645_14, hi645_14⟩ := at_T44 HR0.out x39_2 p645 q645
             cases e645
             replace hx645_0 := (HB.out.cell (World.block_lt_of_cell? w _ hx645_0)).trans hx645_0
             replace hx645_1 := (HB.out.cell (World.block_lt_of_cell? w _ hx645_1)).trans hx645_1
             replace hx645_2 := (HB.out.cell (World.block_lt_of_cell? w _ hx645_2)).trans hx645_2
             replace hx645_3 := (HB.out.cell (World.block_lt_of_cell? w _ hx645_3)).trans hx645_3
             replace hx645_4 := (HB.out.cell (World.block_lt_of_cell? w _ hx645_4)).trans hx645_4
             replace hx645_5 := (HB.out.cell (World.block_lt_of_cell? w _ hx645_5)).trans hx645_5
             replace hx645_6 := (HB.out.cell (World.block_lt_of_cell? w _ hx645_6)).trans hx645_6
             replace hx645_7 := (HB.out.cell (World.block_lt_of_cell? w _ hx645_7)).trans hx645_7
             replace hx645_8 := (HB.out.cell (World.block_lt_of_cell? w _ hx645_8)).trans hx645_8
             replace hx645_9 := (HB.out.cell (World.block_lt_of_cell? w _ hx645_9)).trans hx645_9
             replace hx645_10 := (HB.out.cell (World.block_lt_of_cell? w _ hx645_10)).trans hx645_10
             replace hx645_11 := (HB.out.cell (World.block_lt_of_cell? w _ hx645_11)).trans hx645_11
             replace hx645_12 := (HB.out.cell (World.block_lt_of_cell? w _ hx645_12)).trans hx645_12
             replace hx645_13 := (HB.out.cell (World.block_lt_of_cell? w _ hx645_13)).trans hx645_13
             replace hx645_14 := (HB.out.cell (World.block_lt_of_cell? w _ hx645_14)).trans hx645_14
             replace hx645_15 := (HB.out.cell (World.block_lt_of_cell? w _ hx645_15)).trans hx645_15
             replace hx645_16 := (HB.out.cell (World.block_lt_of_cell? w _ hx645_16)).trans hx645_16
             replace hx645_17 := (HB.out.cell (World.block_lt_of_cell? w _ hx645_17)).trans hx645_17
             replace hx645_18 := (HB.out.cell (World.block_lt_of_cell? w _ hx645_18)).trans hx645_18
             replace hx645_19 := (HB.out.cell (World.block_lt_of_cell? w _ hx645_19)).trans hx645_19
             replace hx645_20 := (HB.out.cell (World.block_lt_of_cell? w _ hx645_20)).trans hx645_20
             replace hx645_21 := (HB.out.cell (World.block_lt_of_cell? w _ hx645_21)).trans hx645_21
             replace hx645_22 := (HB.out.cell (World.block_lt_of_cell? w _ hx645_22)).trans hx645_22
             replace hx645_23 := (HB.out.cell (World.block_lt_of_cell? w _ hx645_23)).trans hx645_23
             replace hx645_24 := (HB.out.cell (World.block_lt_of_cell? w _ hx645_24)).trans hx645_24
             have HR645_13 := Aside0.mk hi645_13
             have HC645_13 := Aside0.mk hl645_13
             clear hi645_13 hl645_13
             have HR645_14 := Aside0.mk hi645_14
             have HC645_14 := Aside0.mk hl645_14
             clear hi645_14 hl645_14
             replace p645 := eq_true p645
             replace q645 := eq_true q645
             go_upto_region 8 with (first | ((with_reducible refine gate_dst (N := 43) rfl ?_); refine cells_load_event ?lg (N := 43) ?ld (t := 44) (x := ?lxxz46) ?lo (p := ?lppz46) ?lx (v := .int .i64 ((rd_T44 l0 x39_2).f0.f0)) (cs := [.int .i64 ((rd_T44 l0 x39_2).f0.f1), .int .i64 ((rd_T44 l0 x39_2).f1), .int .i64 ((rd_T44 l0 x39_2).f2.f0), .int .i64 ((rd_T44 l0 x39_2).f2.f1), .int .i64 ((rd_T44 l0 x39_2).f3.f0), .int .i64 ((rd_T44 l0 x39_2).f3.f1), .int .i64 ((rd_T44 l0 x39_2).f4.f0), .int .i64 ((rd_T44 l0 x39_2).f4.f1.f0), .int .i64 ((rd_T44 l0 x39_2).f4.f1.f1), .int .i64 ((rd_T44 l0 x39_2).f4.f2.f0), .int .i64 ((rd_T44 l0 x39_2).f4.f2.f1), .int .i64 ((rd_T44 l0 x39_2).f4.f3), .slice A645_13 ((rd_T44 l0 x39_2).f4.f4).length c645_13, .slice A645_14 ((rd_T44 l0 x39_2).f4.f5).length c645_14, .bool ((rd_T44 l0 x39_2).f4.f6), .int .i64 ((rd_T44 l0 x39_2).f5), .int .i64 ((rd_T44 l0 x39_2).f6.f0), .int .i64 ((rd_T44 l0 x39_2).f6.f1), .int .i64 ((rd_T44 l0 x39_2).f6.f2), .int .i64 ((rd_T44 l0 x39_2).f6.f3), .int .i64 ((rd_T44 l0 x39_2).f6.f4), .int .i64 ((rd_T44 l0 x39_2).f6.f5), .int .i64 ((rd_T44 l0 x39_2).f6.f6), .bool ((rd_T44 l0 x39_2).f7)]) ?lD ?lt ?l0 ?lc ?_; (case lg => rfl); (case ld => rfl); (case lo => rfl); (case lx => first | rfl | (go_simp; done) | (go_simp; rfl)); (case lD => exact ⟨_, Try.underlying44, rfl⟩); (case lt => kernel_rfl); (case l0 => exact hx645_0); (case lc => exact ⟨hx645_1, hx645_2, hx645_3, hx645_4, hx645_5, hx645_6, hx645_7, hx645_8, hx645_9, hx645_10, hx645_11, hx645_12, hx645_13, hx645_14, hx645_15, hx645_16, hx645_17, hx645_18, hx645_19, hx645_20, hx645_21, hx645_22, hx645_23, hx645_24, trivial⟩)) | ((with_reducible refine gate_dst (N := 11) rfl ?_); (try (refine gate_guard (by rfl) ?_; dsimp only)); refine alloc_mid_store_event (v := ?vvw47) ?hg1 (N := 11) ?hd1 ?hgm ?hg2 ?hd2 ?ho2 (cs0 := #[.int .i64 0, .int .i64 0, .int .i64 0, .int .i64 0, .int .i64 0, .int .i64 0, .int .i64 0, .int .i64 0, .int .i64 0, .int .i64 0, .int .i64 0, .int .i64 0, .int .i64 0, .slice none 0 0, .slice none 0 0, .bool false, .int .i64 0, .int .i64 0, .int .i64 0, .int .i64 0, .int .i64 0, .int .i64 0, .int .i64 0, .int .i64 0, .bool false]) (cs := #[.int .i64 ((rd_T44 l0 x39_2).f0.f0), .int .i64 ((rd_T44 l0 x39_2).f0.f1), .int .i64 ((rd_T44 l0 x39_2).f1), .int .i64 ((rd_T44 l0 x39_2).f2.f0), .int .i64 ((rd_T44 l0 x39_2).f2.f1), .int .i64 ((rd_T44 l0 x39_2).f3.f0), .int .i64 ((rd_T44 l0 x39_2).f3.f1), .int .i64 ((rd_T44 l0 x39_2).f4.f0), .int .i64 ((rd_T44 l0 x39_2).f4.f1.f0), .int .i64 ((rd_T44 l0 x39_2).f4.f1.f1), .int .i64 ((rd_T44 l0 x39_2).f4.f2.f0), .int .i64 ((rd_T44 l0 x39_2).f4.f2.f1), .int .i64 ((rd_T44 l0 x39_2).f4.f3), .slice A645_13 ((rd_T44 l0 x39_2).f4.f4).length c645_13, .slice A645_14 ((rd_T44 l0 x39_2).f4.f5).length c645_14, .bool ((rd_T44 l0 x39_2).f4.f6), .int .i64 ((rd_T44 l0 x39_2).f5), .int .i64 ((rd_T44 l0 x39_2).f6.f0), .int .i64 ((rd_T44 l0 x39_2).f6.f1), .int .i64 ((rd_T44 l0 x39_2).f6.f2), .int .i64 ((rd_T44 l0 x39_2).f6.f3), .int .i64 ((rd_T44 l0 x39_2).f6.f4), .int .i64 ((rd_T44 l0 x39_2).f6.f5), .int .i64 ((rd_T44 l0 x39_2).f6.f6), .bool ((rd_T44 l0 x39_2).f7)]) (t := 44) (x := ?xxw47) ?hr ?hrm ?hp ?hx ?hs ?h1 ?ht ?_; (case hg1 => rfl); (case hgm => rfl); (case hd1 => rfl); (case hg2 => rfl); (case hd2 => rfl); (case ho2 => rfl); (case hr => first | (go_simp; done) | (go_simp; rfl)); (case hrm => first | rfl | (go_simp; done) | (go_simp; rfl)); (case hp => rfl); (case hx => rfl); (case hs => rfl); (case h1 => rfl); (case ht => kernel_rfl); intro gb646 hg w47 hbox hb; have n0_ := Aside0.mk (Kd.V_below (Kd.V_elderB (kv_ HO_625006.out) gb646 (Nat.le_of_eq hg.symm)) hb); have n1_ := Aside0.mk (Kd.V_below (Kd.V_elderB (kv_ HO_625007.out) gb646 (Nat.le_of_eq hg.symm)) hb); have n2_ := Aside0.mk (Kd.V_below (Kd.V_elderB (kv_ HO_644013.out) gb646 (Nat.le_of_eq hg.symm)) hb); have n3_ := Aside0.mk (Kd.V_below (Kd.V_elderB (kv_ HO_644014.out) gb646 (Nat.le_of_eq hg.symm)) hb); have n4_ := Aside0.mk (blk_below (kb_ BK623.out) hb); have n5_ := Aside0.mk (blk_below (kb_ BK624.out) hb); have n6_ := Aside0.mk (blk_below (kb_ BK642.out) hb); have n7_ := Aside0.mk (blk_below (kb_ BK643.out) hb); have n8_ := Aside0.mk (below_step (by repeat (first | (with_reducible first | exact HB.out | apply below_alloc | apply pw_below_drewN | apply below_drew1 | refine below_set ?_ GE623.out | refine below_set ?_ GE624.out | refine below_set ?_ GE642.out | refine below_set ?_ GE643.out) | exact HB.out)) hb); have n9_ := Aside0.mk (hbox); have n10_ := Aside0.mk ((by rw [hg]; exact (below_size (by repeat (first | (with_reducible first | exact HB.out | apply below_alloc | apply pw_below_drewN | apply below_drew1 | refine below_set ?_ GE623.out | refine below_set ?_ GE624.out | refine below_set ?_ GE642.out | refine below_set ?_ GE643.out) | exact HB.out))) : w.heap.size ≤ gb646)); have n11_ := Aside0.mk ((by rw [hg]; exact (below_size (by repeat (first | (with_reducible first | exact HB.out | apply below_alloc | apply pw_below_drewN | apply below_drew1 | refine below_set ?_ GE623.out | refine below_set ?_ GE624.out | refine below_set ?_ GE642.out | refine below_set ?_ GE643.out) | exact HB.out))) : w.heap.size ≤ gb646)); have n12_ := Aside0.mk ((by rw [hg]; exact Nat.ne_of_lt (blk_lt (kb_ BK623.out)) : gb623 ≠ gb646)); have n13_ := Aside0.mk ((by rw [hg]; exact Nat.ne_of_gt (blk_lt (kb_ BK623.out)) : gb646 ≠ gb623)); have n14_ := Aside0.mk ((by rw [hg]; exact Nat.ne_of_lt (blk_lt (kb_ BK624.out)) : gb624 ≠ gb646)); have n15_ := Aside0.mk ((by rw [hg]; exact Nat.ne_of_gt (blk_lt (kb_ BK624.out)) : gb646 ≠ gb624)); have n16_ := Aside0.mk ((by rw [hg]; exact Nat.ne_of_lt (blk_lt (kb_ BK642.out)) : gb642 ≠ gb646)); have n17_ := Aside0.mk ((by rw [hg]; exact Nat.ne_of_gt (blk_lt (kb_ BK642.out)) : gb646 ≠ gb642)); have n18_ := Aside0.mk ((by rw [hg]; exact Nat.ne_of_lt (blk_lt (kb_ BK643.out)) : gb643 ≠ gb646)); have n19_ := Aside0.mk ((by rw [hg]; exact Nat.ne_of_gt (blk_lt (kb_ BK643.out)) : gb646 ≠ gb643)); clear HO_625006; clear HO_625007; clear HO_644013; clear HO_644014; clear BK623; clear BK624; clear BK642; clear BK643; clear HB; have HO_625006 := n0_; have HO_625007 := n1_; have HO_644013 := n2_; have HO_644014 := n3_; have BK623 := n4_; have BK624 := n5_; have BK642 := n6_; have BK643 := n7_; have HB := n8_; have BK646 := n9_; have GW646 := n10_; have GE646 := n11_; have NB623_646 := n12_; have NB646_623 := n13_; have NB624_646 := n14_; have NB646_624 := n15_; have NB642_646 := n16_; have NB646_642 := n17_; have NB643_646 := n18_; have NB646_643 := n19_; clear n0_ n1_ n2_ n3_ n4_ n5_ n6_ n7_ n8_ n9_ n10_ n11_ n12_ n13_ n14_ n15_ n16_ n17_ n18_ n19_; clear hb hbox hg))
             (try simp only [Act.put, List.setIfInBounds_toArray, List.set_cons_zero, List.set_cons_succ])
             go_cut [65] (fun v65 wc => ∃ (kq : Nat) (x65_44 : Bool), v65 = .bool x65_44 ∧ Aside0 (althinglaw11_IndexOrders.j2 kq l0 t634 l0 (l0.length : Int) x39_2 x65_44 a1_0 a1_1 a2_0 a2_1 a2_2 a2_3 a2_4 a2_5 l2_6 l2_7 a2_8 t635 t636 t637 t638 t639 t640 t641 a1_0 a1_1 1 0 0 0 0 a2_0 a2_1 a2_2 a2_3 a2_4 a2_5 l2_6 l2_7 a2_8 t634 t635 t636 t637 t638 t639 t640 t641 false ((rd_T44 l0 x39_2).f0.f0) ((rd_T44 l0 x39_2).f0.f1) ((rd_T44 l0 x39_2).f1) ((rd_T44 l0 x39_2).f2.f0) ((rd_T44 l0 x39_2).f2.f1) ((rd_T44 l0 x39_2).f3.f0) ((rd_T44 l0 x39_2).f3.f1) ((rd_T44 l0 x39_2).f4.f0) ((rd_T44 l0 x39_2).f4.f1.f0) ((rd_T44 l0 x39_2).f4.f1.f1) ((rd_T44 l0 x39_2).f4.f2.f0) ((rd_T44 l0 x39_2).f4.f2.f1) ((rd_T44 l0 x39_2).f4.f3) ((rd_T44 l0 x39_2).f4.f4) ((rd_T44 l0 x39_2).f4.f5) ((rd_T44 l0 x39_2).f4.f6) ((rd_T44 l0 x39_2).f5) ((rd_T44 l0 x39_2).f6.f0) ((rd_T44 l0 x39_2).f6.f1) ((rd_T44 l0 x39_2).f6.f2) ((rd_T44 l0 x39_2).f6.f3) ((rd_T44 l0 x39_2).f6.f4) ((rd_T44 l0 x39_2).f6.f5) ((rd_T44 l0 x39_2).f6.f6) ((rd_T44 l0 x39_2).f7) = some r) ∧ Aside0 (kq ≤ k2) ∧ Aside0 (Kd.V k61 61 wc w.heap.size (fun k_ => ((P2_6_ k_ ∨ P2_7_ k_) ∨ w.heap.size ≤ k_) ∧ k_ ≠ gb623 ∧ k_ ≠ gb624 ∧ k_ ≠ gb642 ∧ k_ ≠ gb643 ∧ k_ ≠ gb646) (.slice A2_6 l2_6.length c2_6) l2_6) ∧ Aside0 (Kd.V k46 46 wc w.heap.size (fun k_ => ((P2_6_ k_ ∨ P2_7_ k_) ∨ w.heap.size ≤ k_) ∧ k_ ≠ gb623 ∧ k_ ≠ gb624 ∧ k_ ≠ gb642 ∧ k_ ≠ gb643 ∧ k_ ≠ gb646) (.slice A2_7 l2_7.length c2_7) l2_7) ∧ Aside0 (Kd.V k61 61 wc w.heap.size (fun k_ => ((P2_6_ k_ ∨ P2_7_ k_) ∨ w.heap.size ≤ k_) ∧ k_ ≠ gb623 ∧ k_ ≠ gb624 ∧ k_ ≠ gb642 ∧ k_ ≠ gb643 ∧ k_ ≠ gb646) (.slice A2_6 l2_6.length c2_6) l2_6) ∧ Aside0 (Kd.V k46 46 wc w.heap.size (fun k_ => ((P2_6_ k_ ∨ P2_7_ k_) ∨ w.heap.size ≤ k_) ∧ k_ ≠ gb623 ∧ k_ ≠ gb624 ∧ k_ ≠ gb642 ∧ k_ ≠ gb643 ∧ k_ ≠ gb646) (.slice A2_7 l2_7.length c2_7) l2_7) ∧ Aside0 (wc.heap[gb623]? = some (.cells #[.int .i64 a1_0, .int .i64 a1_1] 24 (0, 0))) ∧ Aside0 (wc.heap[gb624]? = some (.cells #[.int .i64 a2_0, .int .i64 a2_1, .int .i64 a2_2, .int .i64 a2_3, .int .i64 a2_4, .int .i64 a2_5, (.slice A2_6 l2_6.length c2_6), (.slice A2_7 l2_7.length c2_7), .bool a2_8] 32 (0, 0))) ∧ Aside0 (wc.heap[gb642]? = some (.cells #[.int .i64 t635, .int .i64 t636, .int .i64 t637, .int .i64 t638, .int .i64 t639, .int .i64 t640, .int .i64 t641] 42 (0, 0))) ∧ Aside0 (wc.heap[gb643]? = some (.cells #[.int .i64 a1_0, .int .i64 a1_1, .int .i64 1, .int .i64 0, .int .i64 0, .int .i64 0, .int .i64 0, .int .i64 a2_0, .int .i64 a2_1, .int .i64 a2_2, .int .i64 a2_3, .int .i64 a2_4, .int .i64 a2_5, (.slice A2_6 l2_6.length c2_6), (.slice A2_7 l2_7.length c2_7), .bool a2_8, .int .i64 t634, .int .i64 t635, .int .i64 t636, .int .i64 t637, .int .i64 t638, .int .i64 t639, .int .i64 t640, .int .i64 t641, .bool false] 44 (0, 0))) ∧ Aside0 (wc.heap[gb646]? = some (.cells #[.int .i64 ((rd_T44 l0 x39_2).f0.f0), .int .i64 ((rd_T44 l0 x39_2).f0.f1), .int .i64 ((rd_T44 l0 x39_2).f1), .int .i64 ((rd_T44 l0 x39_2).f2.f0), .int .i64 ((rd_T44 l0 x39_2).f2.f1), .int .i64 ((rd_T44 l0 x39_2).f3.f0), .int .i64 ((rd_T44 l0 x39_2).f3.f1), .int .i64 ((rd_T44 l0 x39_2).f4.f0), .int .i64 ((rd_T44 l0 x39_2).f4.f1.f0), .int .i64 ((rd_T44 l0 x39_2).f4.f1.f1), .int .i64 ((rd_T44 l0 x39_2).f4.f2.f0), .int .i64 ((rd_T44 l0 x39_2).f4.f2.f1), .int .i64 ((rd_T44 l0 x39_2).f4.f3), (.slice A645_13 ((rd_T44 l0 x39_2).f4.f4).length c645_13), (.slice A645_14 ((rd_T44 l0 x39_2).f4.f5).length c645_14), .bool ((rd_T44 l0 x39_2).f4.f6), .int .i64 ((rd_T44 l0 x39_2).f5), .int .i64 ((rd_T44 l0 x39_2).f6.f0), .int .i64 ((rd_T44 l0 x39_2).f6.f1), .int .i64 ((rd_T44 l0 x39_2).f6.f2), .int .i64 ((rd_T44 l0 x39_2).f6.f3), .int .i64 ((rd_T44 l0 x39_2).f6.f4), .int .i64 ((rd_T44 l0 x39_2).f6.f5), .int .i64 ((rd_T44 l0 x39_2).f6.f6), .bool ((rd_T44 l0 x39_2).f7)] 44 (0, 0))) ∧ Aside0 (Below w.heap.size w wc))
             case first =>
              have H := HC45.out
              clear HC45
              obtain ⟨t647, A48, H⟩ := bs_ H
              by_cases c49 : t647 = true
              · subst c49
                rw [if_pos rfl] at H
                by_cases c50 : (((rd_T44 l0 x39_2).f0.f0) == a1_0 && (((rd_T44 l0 x39_2).f0.f1) == a1_1)) = true
                · rw [if_pos c50] at H
                  have c50b0 : (((rd_T44 l0 x39_2).f0.f0) == a1_0 && (((rd_T44 l0 x39_2).f0.f1) == a1_1)) = true := c50
                  (try (have c50b1 : decide (((rd_T44 l0 x39_2).f0.f0) = a1_0 && (((rd_T44 l0 x39_2).f0.f1) == a1_1)) = true := by simpa using c50))
                  (try (have c50b2 : (((rd_T44 l0 x39_2).f0.f0) == a1_0 && (((rd_T44 l0 x39_2).f0.f1) == a1_1)) = true := by simpa using c50))
                  clear c50
                  (first | rw [c50b0] | (simp only [i64_w, i32_w]; rw [c50b0]) | skip)
                  have H' := Aside0.mk H
                  clear H
                  go_wp2_with (first | ((with_reducible refine gate_callee (f := 24) rfl ?_); refine goesL_ (some 46) rfl rfl Try.func24 (by kernel_rfl) rfl #[.slice (some ad645) l0.length c0, .int .i64 x39_2] rfl (by (try simp only [List.map_toArray, List.map_cons, List.map_nil]); first | done | rfl | (simp only [List.length_drop, List.length_take]; rfl)) ?_; (with_reducible refine (althingref11_Last.calls k2 _ _ l0 x39_2 true _ ?side1 ?side2 A48.out).mono ?_); (case side1 => exact kc_ (Kd.C_below HR0.out HB.out)); (case side2 => exact HC0.out); rintro e w' ⟨rfl, ⟨nd, rfl⟩⟩; refine ⟨_, rfl, ?_⟩; have hnb51 := NB646_623.out; have hnc51 := NB623_646.out; have hnb52 := NB646_624.out; have hnc52 := NB624_646.out; have hnb53 := NB646_642.out; have hnc53 := NB642_646.out; have hnb54 := NB646_643.out; have hnc54 := NB643_646.out; refine blk25_ BK646.out fun hcz55_0 hcz55_1 hcz55_2 hcz55_3 hcz55_4 hcz55_5 hcz55_6 hcz55_7 hcz55_8 hcz55_9 hcz55_10 hcz55_11 hcz55_12 hcz55_13 hcz55_14 hcz55_15 hcz55_16 hcz55_17 hcz55_18 hcz55_19 hcz55_20 hcz55_21 hcz55_22 hcz55_23 hcz55_24 hfz55_0 hfz55_1 hfz55_2 hfz55_3 hfz55_4 hfz55_5 hfz55_6 hfz55_7 hfz55_8 hfz55_9 hfz55_10 hfz55_11 hfz55_12 hfz55_13 hfz55_14 hfz55_15 hfz55_16 hfz55_17 hfz55_18 hfz55_19 hfz55_20 hfz55_21 hfz55_22 hfz55_23 hfz55_24 => ?_; have hnb56 := NB623_624.out; have hnc56 := NB624_623.out; have hnb57 := NB623_642.out; have hnc57 := NB642_623.out; have hnb58 := NB623_643.out; have hnc58 := NB643_623.out; refine blk2_ BK623.out fun hcz59_0 hcz59_1 hfz59_0 hfz59_1 => ?_))
                  go_meet
                  case rel => exact ⟨_, (true), (by first | rfl | (simp; done) | (simp [*]; done)), H', ⟨by have := HJ3.out; have := HK2.out; first | omega | exact Nat.le_refl _⟩, ⟨by (with_reducible repeat (first | apply Kd.V_alloc | apply Kd.V_drewN | apply Kd.V_drew)); exact Kd.V_mono HO_625006.out (fun _ hk => ⟨hk.1.1, ⟨hk.1.2.1, ⟨hk.1.2.2.1, ⟨hk.1.2.2.2.1, ⟨hk.1.2.2.2.2, hk.2⟩⟩⟩⟩⟩)⟩, ⟨by (with_reducible repeat (first | apply Kd.V_alloc | apply Kd.V_drewN | apply Kd.V_drew)); exact Kd.V_mono HO_625007.out (fun _ hk => ⟨hk.1.1, ⟨hk.1.2.1, ⟨hk.1.2.2.1, ⟨hk.1.2.2.2.1, ⟨hk.1.2.2.2.2, hk.2⟩⟩⟩⟩⟩)⟩, ⟨by (with_reducible repeat (first | apply Kd.V_alloc | apply Kd.V_drewN | apply Kd.V_drew)); exact Kd.V_mono HO_644013.out (fun _ hk => ⟨hk.1.1, ⟨hk.1.2.1, ⟨hk.1.2.2.1, ⟨hk.1.2.2.2.1, ⟨hk.1.2.2.2.2, hk.2⟩⟩⟩⟩⟩)⟩, ⟨by (with_reducible repeat (first | apply Kd.V_alloc | apply Kd.V_drewN | apply Kd.V_drew)); exact Kd.V_mono HO_644014.out (fun _ hk => ⟨hk.1.1, ⟨hk.1.2.1, ⟨hk.1.2.2.1, ⟨hk.1.2.2.2.1, ⟨hk.1.2.2.2.2, hk.2⟩⟩⟩⟩⟩)⟩, ⟨by (with_reducible repeat (first | refine blk_drewN ?_ _ | refine blk_drew ?_ | refine blk_alloc ?_ _)); exact BK623.out⟩, ⟨by (with_reducible repeat (first | refine blk_drewN ?_ _ | refine blk_drew ?_ | refine blk_alloc ?_ _)); exact BK624.out⟩, ⟨by (with_reducible repeat (first | refine blk_drewN ?_ _ | refine blk_drew ?_ | refine blk_alloc ?_ _)); exact BK642.out⟩, ⟨by (with_reducible repeat (first | refine blk_drewN ?_ _ | refine blk_drew ?_ | refine blk_alloc ?_ _)); exact BK643.out⟩, ⟨by (with_reducible repeat (first | refine blk_drewN ?_ _ | refine blk_drew ?_ | refine blk_alloc ?_ _)); exact BK646.out⟩, ⟨by repeat (first | (with_reducible first | exact HB.out | apply below_alloc | apply pw_below_drewN | apply below_drew1 | refine below_set ?_ GE623.out | refine below_set ?_ GE624.out | refine below_set ?_ GE642.out | refine below_set ?_ GE643.out | refine below_set ?_ GE646.out) | exact HB.out)⟩⟩
                · rw [if_neg c50] at H
                  have c50b0 : (((rd_T44 l0 x39_2).f0.f0) == a1_0 && (((rd_T44 l0 x39_2).f0.f1) == a1_1)) = false := by simpa using c50
                  (try (have c50b1 : decide (((rd_T44 l0 x39_2).f0.f0) = a1_0 && (((rd_T44 l0 x39_2).f0.f1) == a1_1)) = false := by simpa using c50))
                  (try (have c50b2 : (((rd_T44 l0 x39_2).f0.f0) == a1_0 && (((rd_T44 l0 x39_2).f0.f1) == a1_1)) = false := by simpa using c50))
                  (try (have c50b3 : ¬ (((rd_T44 l0 x39_2).f0.f0) = a1_0 && (((rd_T44 l0 x39_2).f0.f1) == a1_1)) := by simpa using c50))
                  clear c50
                  (first | rw [c50b0] | (simp only [i64_w, i32_w]; rw [c50b0]) | skip)
                  by_cases c60 : ((rd_T44 l0 x39_2).f1) ≤ 0
                  · rw [if_pos c60] at H
                    have c60b0 : decide (((rd_T44 l0 x39_2).f1) ≤ 0) = true := decide_eq_true c60
                    clear c60
                    have H' := Aside0.mk H
                    clear H
                    go_wp2_with (first | ((with_reducible refine gate_callee (f := 24) rfl ?_); refine goesL_ (some 46) rfl rfl Try.func24 (by kernel_rfl) rfl #[.slice (some ad645) l0.length c0, .int .i64 x39_2] rfl (by (try simp only [List.map_toArray, List.map_cons, List.map_nil]); first | done | rfl | (simp only [List.length_drop, List.length_take]; rfl)) ?_; (with_reducible refine (althingref11_Last.calls k2 _ _ l0 x39_2 true _ ?side1 ?side2 A48.out).mono ?_); (case side1 => exact kc_ (Kd.C_below HR0.out HB.out)); (case side2 => exact HC0.out); rintro e w' ⟨rfl, ⟨nd, rfl⟩⟩; refine ⟨_, rfl, ?_⟩; have hnb61 := NB646_623.out; have hnc61 := NB623_646.out; have hnb62 := NB646_624.out; have hnc62 := NB624_646.out; have hnb63 := NB646_642.out; have hnc63 := NB642_646.out; have hnb64 := NB646_643.out; have hnc64 := NB643_646.out; refine blk25_ BK646.out fun hcz65_0 hcz65_1 hcz65_2 hcz65_3 hcz65_4 hcz65_5 hcz65_6 hcz65_7 hcz65_8 hcz65_9 hcz65_10 hcz65_11 hcz65_12 hcz65_13 hcz65_14 hcz65_15 hcz65_16 hcz65_17 hcz65_18 hcz65_19 hcz65_20 hcz65_21 hcz65_22 hcz65_23 hcz65_24 hfz65_0 hfz65_1 hfz65_2 hfz65_3 hfz65_4 hfz65_5 hfz65_6 hfz65_7 hfz65_8 hfz65_9 hfz65_10 hfz65_11 hfz65_12 hfz65_13 hfz65_14 hfz65_15 hfz65_16 hfz65_17 hfz65_18 hfz65_19 hfz65_20 hfz65_21 hfz65_22 hfz65_23 hfz65_24 => ?_; have hnb66 := NB623_624.out; have hnc66 := NB624_623.out; have hnb67 := NB623_642.out; have hnc67 := NB642_623.out; have hnb68 := NB623_643.out; have hnc68 := NB643_623.out; refine blk2_ BK623.out fun hcz69_0 hcz69_1 hfz69_0 hfz69_1 => ?_))
                    go_meet
                    case rel => exact ⟨_, (true), (by first | rfl | (simp; done) | (simp [*]; done)), H', ⟨by have := HJ3.out; have := HK2.out; first | omega | exact Nat.le_refl _⟩, ⟨by (with_reducible repeat (first | apply Kd.V_alloc | apply Kd.V_drewN | apply Kd.V_drew)); exact Kd.V_mono HO_625006.out (fun _ hk => ⟨hk.1.1, ⟨hk.1.2.1, ⟨hk.1.2.2.1, ⟨hk.1.2.2.2.1, ⟨hk.1.2.2.2.2, hk.2⟩⟩⟩⟩⟩)⟩, ⟨by (with_reducible repeat (first | apply Kd.V_alloc | apply Kd.V_drewN | apply Kd.V_drew)); exact Kd.V_mono HO_625007.out (fun _ hk => ⟨hk.1.1, ⟨hk.1.2.1, ⟨hk.1.2.2.1, ⟨hk.1.2.2.2.1, ⟨hk.1.2.2.2.2, hk.2⟩⟩⟩⟩⟩)⟩, ⟨by (with_reducible repeat (first | apply Kd.V_alloc | apply Kd.V_drewN | apply Kd.V_drew)); exact Kd.V_mono HO_644013.out (fun _ hk => ⟨hk.1.1, ⟨hk.1.2.1, ⟨hk.1.2.2.1, ⟨hk.1.2.2.2.1, ⟨hk.1.2.2.2.2, hk.2⟩⟩⟩⟩⟩)⟩, ⟨by (with_reducible repeat (first | apply Kd.V_alloc | apply Kd.V_drewN | apply Kd.V_drew)); exact Kd.V_mono HO_644014.out (fun _ hk => ⟨hk.1.1, ⟨hk.1.2.1, ⟨hk.1.2.2.1, ⟨hk.1.2.2.2.1, ⟨hk.1.2.2.2.2, hk.2⟩⟩⟩⟩⟩)⟩, ⟨by (with_reducible repeat (first | refine blk_drewN ?_ _ | refine blk_drew ?_ | refine blk_alloc ?_ _)); exact BK623.out⟩, ⟨by (with_reducible repeat (first | refine blk_drewN ?_ _ | refine blk_drew ?_ | refine blk_alloc ?_ _)); exact BK624.out⟩, ⟨by (with_reducible repeat (first | refine blk_drewN ?_ _ | refine blk_drew ?_ | refine blk_alloc ?_ _)); exact BK642.out⟩, ⟨by (with_reducible repeat (first | refine blk_drewN ?_ _ | refine blk_drew ?_ | refine blk_alloc ?_ _)); exact BK643.out⟩, ⟨by (with_reducible repeat (first | refine blk_drewN ?_ _ | refine blk_drew ?_ | refine blk_alloc ?_ _)); exact BK646.out⟩, ⟨by repeat (first | (with_reducible first | exact HB.out | apply below_alloc | apply pw_below_drewN | apply below_drew1 | refine below_set ?_ GE623.out | refine below_set ?_ GE624.out | refine below_set ?_ GE642.out | refine below_set ?_ GE643.out | refine below_set ?_ GE646.out) | exact HB.out)⟩⟩
                  · rw [if_neg c60] at H
                    have c60b0 : decide (((rd_T44 l0 x39_2).f1) ≤ 0) = false := decide_eq_false c60
                    clear c60
                    obtain ⟨t648, A70, H⟩ := bs_ H
                    have H' := Aside0.mk H
                    clear H
                    go_wp2_with (first | ((with_reducible refine gate_callee (f := 24) rfl ?_); refine goesL_ (some 46) rfl rfl Try.func24 (by kernel_rfl) rfl #[.slice (some ad645) l0.length c0, .int .i64 x39_2] rfl (by (try simp only [List.map_toArray, List.map_cons, List.map_nil]); first | done | rfl | (simp only [List.length_drop, List.length_take]; rfl)) ?_; (with_reducible refine (althingref11_Last.calls k2 _ _ l0 x39_2 true _ ?side1 ?side2 A48.out).mono ?_); (case side1 => exact kc_ (Kd.C_below HR0.out HB.out)); (case side2 => exact HC0.out); rintro e w' ⟨rfl, ⟨nd, rfl⟩⟩; refine ⟨_, rfl, ?_⟩; have hnb71 := NB646_623.out; have hnc71 := NB623_646.out; have hnb72 := NB646_624.out; have hnc72 := NB624_646.out; have hnb73 := NB646_642.out; have hnc73 := NB642_646.out; have hnb74 := NB646_643.out; have hnc74 := NB643_646.out; refine blk25_ BK646.out fun hcz75_0 hcz75_1 hcz75_2 hcz75_3 hcz75_4 hcz75_5 hcz75_6 hcz75_7 hcz75_8 hcz75_9 hcz75_10 hcz75_11 hcz75_12 hcz75_13 hcz75_14 hcz75_15 hcz75_16 hcz75_17 hcz75_18 hcz75_19 hcz75_20 hcz75_21 hcz75_22 hcz75_23 hcz75_24 hfz75_0 hfz75_1 hfz75_2 hfz75_3 hfz75_4 hfz75_5 hfz75_6 hfz75_7 hfz75_8 hfz75_9 hfz75_10 hfz75_11 hfz75_12 hfz75_13 hfz75_14 hfz75_15 hfz75_16 hfz75_17 hfz75_18 hfz75_19 hfz75_20 hfz75_21 hfz75_22 hfz75_23 hfz75_24 => ?_; have hnb76 := NB623_624.out; have hnc76 := NB624_623.out; have hnb77 := NB623_642.out; have hnc77 := NB642_623.out; have hnb78 := NB623_643.out; have hnc78 := NB643_623.out; refine blk2_ BK623.out fun hcz79_0 hcz79_1 hfz79_0 hfz79_1 => ?_) | ((with_reducible refine gate_dst (N := 62) rfl ?_); (try (refine gate_guard (by rfl) ?_; dsimp only)); refine blk_load_event ?lg (N := 62) ?ld (t := 32) (x := ?lxxz80) ?lo (g := gb624) ?lx (cs := _) BK624.out ?lD ?lt ?_; (case lg => rfl); (case ld => rfl); (case lo => rfl); (case lx => first | rfl | (go_simp; done) | (go_simp; rfl)); (case lD => exact ⟨_, Try.underlying32, rfl⟩); (case lt => kernel_rfl)) | (go_at_call 25; (with_reducible refine (althingref05_Interfere.calls k2 ((rd_T44 l0 x39_2).f4.f0) ((rd_T44 l0 x39_2).f4.f1.f0) ((rd_T44 l0 x39_2).f4.f1.f1) ((rd_T44 l0 x39_2).f4.f2.f0) ((rd_T44 l0 x39_2).f4.f2.f1) ((rd_T44 l0 x39_2).f4.f3) _ _ ((rd_T44 l0 x39_2).f4.f4) _ _ ((rd_T44 l0 x39_2).f4.f5) ((rd_T44 l0 x39_2).f4.f6) a2_0 a2_1 a2_2 a2_3 a2_4 a2_5 _ _ l2_6 _ _ l2_7 a2_8 t648 _ ?side1 ?side2 ?side3 ?side4 ?side5 ?side6 ?side7 ?side8 A70.out).mono ?_); (case side1 => repeat (first | exact (Kd.C_below HR645_13.out (by repeat (first | (with_reducible first | exact HB.out | apply below_alloc | apply pw_below_drewN | apply below_drew1 | refine below_set ?_ GE623.out | refine below_set ?_ GE624.out | refine below_set ?_ GE642.out | refine below_set ?_ GE643.out | refine below_set ?_ GE646.out) | exact HB.out))) | (with_reducible refine Kd.C_alloc ?_ _) | (with_reducible refine Kd.C_drewN ?_ _) | (with_reducible refine Kd.C_drew ?_))); (case side2 => exact HC645_13.out); (case side3 => repeat (first | exact (Kd.C_below HR645_14.out (by repeat (first | (with_reducible first | exact HB.out | apply below_alloc | apply pw_below_drewN | apply below_drew1 | refine below_set ?_ GE623.out | refine below_set ?_ GE624.out | refine below_set ?_ GE642.out | refine below_set ?_ GE643.out | refine below_set ?_ GE646.out) | exact HB.out))) | (with_reducible refine Kd.C_alloc ?_ _) | (with_reducible refine Kd.C_drewN ?_ _) | (with_reducible refine Kd.C_drew ?_))); (case side4 => exact HC645_14.out); (case side5 => repeat (first | exact (Kd.V_reads' HO_625006.out).2.2 | (with_reducible refine Kd.C_alloc ?_ _) | (with_reducible refine Kd.C_drewN ?_ _) | (with_reducible refine Kd.C_drew ?_))); (case side6 => exact (Kd.V_reads' HO_625006.out).2.1); (case side7 => repeat (first | exact (Kd.V_reads' HO_625007.out).2.2 | (with_reducible refine Kd.C_alloc ?_ _) | (with_reducible refine Kd.C_drewN ?_ _) | (with_reducible refine Kd.C_drew ?_))); (case side8 => exact (Kd.V_reads' HO_625007.out).2.1); rintro e w81 ⟨rfl, hb⟩; have n0_ := Aside0.mk (Kd.V_below (kv_ HO_625006.out) hb); have n1_ := Aside0.mk (Kd.V_below (kv_ HO_625007.out) hb); have n2_ := Aside0.mk (Kd.V_below (kv_ HO_644013.out) hb); have n3_ := Aside0.mk (Kd.V_below (kv_ HO_644014.out) hb); have n4_ := Aside0.mk (blk_below (kb_ BK623.out) hb); have n5_ := Aside0.mk (blk_below (kb_ BK624.out) hb); have n6_ := Aside0.mk (blk_below (kb_ BK642.out) hb); have n7_ := Aside0.mk (blk_below (kb_ BK643.out) hb); have n8_ := Aside0.mk (blk_below (kb_ BK646.out) hb); have n9_ := Aside0.mk (below_step (by repeat (first | (with_reducible first | exact HB.out | apply below_alloc | apply pw_below_drewN | apply below_drew1 | refine below_set ?_ GE623.out | refine below_set ?_ GE624.out | refine below_set ?_ GE642.out | refine below_set ?_ GE643.out | refine below_set ?_ GE646.out) | exact HB.out)) hb); clear HO_625006; clear HO_625007; clear HO_644013; clear HO_644014; clear BK623; clear BK624; clear BK642; clear BK643; clear BK646; clear HB; have HO_625006 := n0_; have HO_625007 := n1_; have HO_644013 := n2_; have HO_644014 := n3_; have BK623 := n4_; have BK624 := n5_; have BK642 := n6_; have BK643 := n7_; have BK646 := n8_; have HB := n9_; clear n0_ n1_ n2_ n3_ n4_ n5_ n6_ n7_ n8_ n9_; (try clear hb); (try clear hb2); (try clear hk); (try clear hi)))
                    go_meet
                    case rel => exact ⟨_, (!t648), (by first | rfl | (simp; done) | (simp [*]; done)), H', ⟨by have := HJ3.out; have := HK2.out; first | omega | exact Nat.le_refl _⟩, ⟨by (with_reducible repeat (first | apply Kd.V_alloc | apply Kd.V_drewN | apply Kd.V_drew)); exact Kd.V_mono HO_625006.out (fun _ hk => ⟨hk.1.1, ⟨hk.1.2.1, ⟨hk.1.2.2.1, ⟨hk.1.2.2.2.1, ⟨hk.1.2.2.2.2, hk.2⟩⟩⟩⟩⟩)⟩, ⟨by (with_reducible repeat (first | apply Kd.V_alloc | apply Kd.V_drewN | apply Kd.V_drew)); exact Kd.V_mono HO_625007.out (fun _ hk => ⟨hk.1.1, ⟨hk.1.2.1, ⟨hk.1.2.2.1, ⟨hk.1.2.2.2.1, ⟨hk.1.2.2.2.2, hk.2⟩⟩⟩⟩⟩)⟩, ⟨by (with_reducible repeat (first | apply Kd.V_alloc | apply Kd.V_drewN | apply Kd.V_drew)); exact Kd.V_mono HO_644013.out (fun _ hk => ⟨hk.1.1, ⟨hk.1.2.1, ⟨hk.1.2.2.1, ⟨hk.1.2.2.2.1, ⟨hk.1.2.2.2.2, hk.2⟩⟩⟩⟩⟩)⟩, ⟨by (with_reducible repeat (first | apply Kd.V_alloc | apply Kd.V_drewN | apply Kd.V_drew)); exact Kd.V_mono HO_644014.out (fun _ hk => ⟨hk.1.1, ⟨hk.1.2.1, ⟨hk.1.2.2.1, ⟨hk.1.2.2.2.1, ⟨hk.1.2.2.2.2, hk.2⟩⟩⟩⟩⟩)⟩, ⟨by (with_reducible repeat (first | refine blk_drewN ?_ _ | refine blk_drew ?_ | refine blk_alloc ?_ _)); exact BK623.out⟩, ⟨by (with_reducible repeat (first | refine blk_drewN ?_ _ | refine blk_drew ?_ | refine blk_alloc ?_ _)); exact BK624.out⟩, ⟨by (with_reducible repeat (first | refine blk_drewN ?_ _ | refine blk_drew ?_ | refine blk_alloc ?_ _)); exact BK642.out⟩, ⟨by (with_reducible repeat (first | refine blk_drewN ?_ _ | refine blk_drew ?_ | refine blk_alloc ?_ _)); exact BK643.out⟩, ⟨by (with_reducible repeat (first | refine blk_drewN ?_ _ | refine blk_drew ?_ | refine blk_alloc ?_ _)); exact BK646.out⟩, ⟨by repeat (first | (with_reducible first | exact HB.out | apply below_alloc | apply pw_below_drewN | apply below_drew1 | refine below_set ?_ GE623.out | refine below_set ?_ GE624.out | refine below_set ?_ GE642.out | refine below_set ?_ GE643.out | refine below_set ?_ GE646.out) | exact HB.out)⟩⟩
              · replace c49 := Bool.eq_false_iff.mpr c49
                subst c49
                rw [if_neg (show ¬ (false = true) by decide)] at H
                have H' := Aside0.mk H
                clear H
                go_wp2_with (first | ((with_reducible refine gate_callee (f := 24) rfl ?_); refine goesL_ (some 46) rfl rfl Try.func24 (by kernel_rfl) rfl #[.slice (some ad645) l0.length c0, .int .i64 x39_2] rfl (by (try simp only [List.map_toArray, List.map_cons, List.map_nil]); first | done | rfl | (simp only [List.length_drop, List.length_take]; rfl)) ?_; (with_reducible refine (althingref11_Last.calls k2 _ _ l0 x39_2 false _ ?side1 ?side2 A48.out).mono ?_); (case side1 => exact kc_ (Kd.C_below HR0.out HB.out)); (case side2 => exact HC0.out); rintro e w' ⟨rfl, ⟨nd, rfl⟩⟩; refine ⟨_, rfl, ?_⟩))
                go_meet
                case rel => exact ⟨_, (true), (by first | rfl | (simp; done) | (simp [*]; done)), H', ⟨by have := HJ3.out; have := HK2.out; first | omega | exact Nat.le_refl _⟩, ⟨by (with_reducible repeat (first | apply Kd.V_alloc | apply Kd.V_drewN | apply Kd.V_drew)); exact Kd.V_mono HO_625006.out (fun _ hk => ⟨hk.1.1, ⟨hk.1.2.1, ⟨hk.1.2.2.1, ⟨hk.1.2.2.2.1, ⟨hk.1.2.2.2.2, hk.2⟩⟩⟩⟩⟩)⟩, ⟨by (with_reducible repeat (first | apply Kd.V_alloc | apply Kd.V_drewN | apply Kd.V_drew)); exact Kd.V_mono HO_625007.out (fun _ hk => ⟨hk.1.1, ⟨hk.1.2.1, ⟨hk.1.2.2.1, ⟨hk.1.2.2.2.1, ⟨hk.1.2.2.2.2, hk.2⟩⟩⟩⟩⟩)⟩, ⟨by (with_reducible repeat (first | apply Kd.V_alloc | apply Kd.V_drewN | apply Kd.V_drew)); exact Kd.V_mono HO_644013.out (fun _ hk => ⟨hk.1.1, ⟨hk.1.2.1, ⟨hk.1.2.2.1, ⟨hk.1.2.2.2.1, ⟨hk.1.2.2.2.2, hk.2⟩⟩⟩⟩⟩)⟩, ⟨by (with_reducible repeat (first | apply Kd.V_alloc | apply Kd.V_drewN | apply Kd.V_drew)); exact Kd.V_mono HO_644014.out (fun _ hk => ⟨hk.1.1, ⟨hk.1.2.1, ⟨hk.1.2.2.1, ⟨hk.1.2.2.2.1, ⟨hk.1.2.2.2.2, hk.2⟩⟩⟩⟩⟩)⟩, ⟨by (with_reducible repeat (first | refine blk_drewN ?_ _ | refine blk_drew ?_ | refine blk_alloc ?_ _)); exact BK623.out⟩, ⟨by (with_reducible repeat (first | refine blk_drewN ?_ _ | refine blk_drew ?_ | refine blk_alloc ?_ _)); exact BK624.out⟩, ⟨by (with_reducible repeat (first | refine blk_drewN ?_ _ | refine blk_drew ?_ | refine blk_alloc ?_ _)); exact BK642.out⟩, ⟨by (with_reducible repeat (first | refine blk_drewN ?_ _ | refine blk_drew ?_ | refine blk_alloc ?_ _)); exact BK643.out⟩, ⟨by (with_reducible repeat (first | refine blk_drewN ?_ _ | refine blk_drew ?_ | refine blk_alloc ?_ _)); exact BK646.out⟩, ⟨by repeat (first | (with_reducible first | exact HB.out | apply below_alloc | apply pw_below_drewN | apply below_drew1 | refine below_set ?_ GE623.out | refine below_set ?_ GE624.out | refine below_set ?_ GE642.out | refine below_set ?_ GE643.out | refine below_set ?_ GE646.out) | exact HB.out)⟩⟩
             case rest =>
              clear HC45
              try clear c1
              try clear c2
              try clear p2
              try clear c3
              try clear c4
              try clear c5
              try clear c6
              try clear p6
              try clear q6
              try clear hx6
              try clear c7
              try clear c13
              try clear c21
              try clear c24
              try clear c35
              try clear c36
              try clear c38
              try clear c42
              try clear c42b0
              try clear c43
              try clear c43b0
              try clear c44
              try clear c44b0
              try clear c49
              try clear c50
              try clear c50b0
              try clear c50b1
              try clear c50b2
              try clear c51
              try clear c52
              try clear c53
              try clear c54
              try clear c56
              try clear c57
              try clear c58
              try clear c60
              try clear c60b0
              try clear c61
              try clear c62
              try clear c63
              try clear c64
              try clear p64
              try clear q64
              try clear hx64
              try clear c66
              try clear c67
              try clear c68
              try clear c71
              try clear c72
              try clear c73
              try clear c74
              try clear c76
              try clear c77
              try clear c78
              try clear hcz37_0 hcz37_1
              try clear hcz39_0 hcz39_1 hcz39_2 hcz39_3 hcz39_4 hcz39_5 hcz39_6 hcz39_7 hcz39_8
              try clear hcz40_0 hcz40_1 hcz40_2 hcz40_3 hcz40_4 hcz40_5 hcz40_6
              try clear hcz55_0 hcz55_1 hcz55_10 hcz55_11 hcz55_12 hcz55_13 hcz55_14 hcz55_15 hcz55_16 hcz55_17 hcz55_18 hcz55_19 hcz55_2 hcz55_20 hcz55_21 hcz55_22 hcz55_23 hcz55_24 hcz55_3 hcz55_4 hcz55_5 hcz55_6 hcz55_7 hcz55_8 hcz55_9
              try clear hcz59_0 hcz59_1
              try clear hcz65_0 hcz65_1 hcz65_10 hcz65_11 hcz65_12 hcz65_13 hcz65_14 hcz65_15 hcz65_16 hcz65_17 hcz65_18 hcz65_19 hcz65_2 hcz65_20 hcz65_21 hcz65_22 hcz65_23 hcz65_24 hcz65_3 hcz65_4 hcz65_5 hcz65_6 hcz65_7 hcz65_8 hcz65_9
              try clear hcz69_0 hcz69_1
              try clear hcz75_0 hcz75_1 hcz75_10 hcz75_11 hcz75_12 hcz75_13 hcz75_14 hcz75_15 hcz75_16 hcz75_17 hcz75_18 hcz75_19 hcz75_2 hcz75_20 hcz75_21 hcz75_22 hcz75_23 hcz75_24 hcz75_3 hcz75_4 hcz75_5 hcz75_6 hcz75_7 hcz75_8 hcz75_9
              try clear hcz79_0 hcz79_1
              try clear hfz37_0 hfz37_1
              try clear hfz39_0 hfz39_1 hfz39_2 hfz39_3 hfz39_4 hfz39_5 hfz39_6 hfz39_7 hfz39_8
              try clear hfz40_0 hfz40_1 hfz40_2 hfz40_3 hfz40_4 hfz40_5 hfz40_6
              try clear hfz55_0 hfz55_1 hfz55_10 hfz55_11 hfz55_12 hfz55_13 hfz55_14 hfz55_15 hfz55_16 hfz55_17 hfz55_18 hfz55_19 hfz55_2 hfz55_20 hfz55_21 hfz55_22 hfz55_23 hfz55_24 hfz55_3 hfz55_4 hfz55_5 hfz55_6 hfz55_7 hfz55_8 hfz55_9
              try clear hfz59_0 hfz59_1
              try clear hfz65_0 hfz65_1 hfz65_10 hfz65_11 hfz65_12 hfz65_13 hfz65_14 hfz65_15 hfz65_16 hfz65_17 hfz65_18 hfz65_19 hfz65_2 hfz65_20 hfz65_21 hfz65_22 hfz65_23 hfz65_24 hfz65_3 hfz65_4 hfz65_5 hfz65_6 hfz65_7 hfz65_8 hfz65_9
              try clear hfz69_0 hfz69_1
              try clear hfz75_0 hfz75_1 hfz75_10 hfz75_11 hfz75_12 hfz75_13 hfz75_14 hfz75_15 hfz75_16 hfz75_17 hfz75_18 hfz75_19 hfz75_2 hfz75_20 hfz75_21 hfz75_22 hfz75_23 hfz75_24 hfz75_3 hfz75_4 hfz75_5 hfz75_6 hfz75_7 hfz75_8 hfz75_9
              try clear hfz79_0 hfz79_1
              try clear hx645_0
              try clear hx645_1
              try clear hx645_10
              try clear hx645_11
              try clear hx645_12
              try clear hx645_13
              try clear hx645_14
              try clear hx645_15
              try clear hx645_16
              try clear hx645_17
              try clear hx645_18
              try clear hx645_19
              try clear hx645_2
              try clear hx645_20
              try clear hx645_21
              try clear hx645_22
              try clear hx645_23
              try clear hx645_24
              try clear hx645_3
              try clear hx645_4
              try clear hx645_5
              try clear hx645_6
              try clear hx645_7
              try clear hx645_8
              try clear hx645_9
              try clear p2
              try clear p645
              try clear q645
              obtain ⟨kq, x65_44, rfl, HA, HJ44, HO_625006, HO_625007, HO_644013, HO_644014, BK623, BK624, BK642, BK643, BK646, HB⟩ := hcut
              cases kq with
              | zero => exact absurd HA.out (by simp [althinglaw11_IndexOrders.j2])
              | succ kj44 =>
               have H := HA.out
               clear HA
               simp only [althinglaw11_IndexOrders.j2] at H
               by_cases c82 : x65_44 = true
               · subst c82
                 rw [if_pos rfl] at H
                 have H' := Aside0.mk H
                 clear H
                 go_wp2
                 go_roundg kj44
                 case measure => have := HJ3.out; have := HK2.out; have := HJ44.out; omega
                 case rel => exact ⟨(wrap64 (x39_2 + 1)), (by first | rfl | (simp; done) | (simp [*]; done)), H', ⟨by have := HJ3.out; have := HK2.out; have := HJ44.out; omega⟩, ⟨by (with_reducible repeat (first | apply Kd.V_alloc | apply Kd.V_drewN | apply Kd.V_drew)); exact Kd.V_mono HO_625006.out (fun _ hk => ⟨hk.1, ⟨hk.2.1, ⟨hk.2.2.1, ⟨hk.2.2.2.1, hk.2.2.2.2.1⟩⟩⟩⟩)⟩, ⟨by (with_reducible repeat (first | apply Kd.V_alloc | apply Kd.V_drewN | apply Kd.V_drew)); exact Kd.V_mono HO_625007.out (fun _ hk => ⟨hk.1, ⟨hk.2.1, ⟨hk.2.2.1, ⟨hk.2.2.2.1, hk.2.2.2.2.1⟩⟩⟩⟩)⟩, ⟨by (with_reducible repeat (first | apply Kd.V_alloc | apply Kd.V_drewN | apply Kd.V_drew)); exact Kd.V_mono HO_644013.out (fun _ hk => ⟨hk.1, ⟨hk.2.1, ⟨hk.2.2.1, ⟨hk.2.2.2.1, hk.2.2.2.2.1⟩⟩⟩⟩)⟩, ⟨by (with_reducible repeat (first | apply Kd.V_alloc | apply Kd.V_drewN | apply Kd.V_drew)); exact Kd.V_mono HO_644014.out (fun _ hk => ⟨hk.1, ⟨hk.2.1, ⟨hk.2.2.1, ⟨hk.2.2.2.1, hk.2.2.2.2.1⟩⟩⟩⟩)⟩, ⟨by (with_reducible repeat (first | refine blk_drewN ?_ _ | refine blk_drew ?_ | refine blk_alloc ?_ _)); exact BK623.out⟩, ⟨by (with_reducible repeat (first | refine blk_drewN ?_ _ | refine blk_drew ?_ | refine blk_alloc ?_ _)); exact BK624.out⟩, ⟨by (with_reducible repeat (first | refine blk_drewN ?_ _ | refine blk_drew ?_ | refine blk_alloc ?_ _)); exact BK642.out⟩, ⟨by (with_reducible repeat (first | refine blk_drewN ?_ _ | refine blk_drew ?_ | refine blk_alloc ?_ _)); exact BK643.out⟩, ⟨by repeat (first | (with_reducible first | exact HB.out | apply below_alloc | apply pw_below_drewN | apply below_drew1 | refine below_set ?_ GE623.out | refine below_set ?_ GE624.out | refine below_set ?_ GE642.out | refine below_set ?_ GE643.out | refine below_set ?_ GE646.out) | exact HB.out)⟩⟩
               · replace c82 := Bool.eq_false_iff.mpr c82
                 subst c82
                 rw [if_neg (show ¬ (false = true) by decide)] at H
                 have HC83 := Aside0.mk H
                 clear H
                 go_upto_region 9 with (fail)
                 go_cut [12] (fun v12 wc => ∃ (kq : Nat) (x12_82 : Bool), v12 = .bool x12_82 ∧ Aside0 (althinglaw11_IndexOrders.j3 kq l0 t634 x12_82 l0 (l0.length : Int) x39_2 a1_0 a1_1 a2_0 a2_1 a2_2 a2_3 a2_4 a2_5 l2_6 l2_7 a2_8 t635 t636 t637 t638 t639 t640 t641 a1_0 a1_1 1 0 0 0 0 a2_0 a2_1 a2_2 a2_3 a2_4 a2_5 l2_6 l2_7 a2_8 t634 t635 t636 t637 t638 t639 t640 t641 false ((rd_T44 l0 x39_2).f0.f0) ((rd_T44 l0 x39_2).f0.f1) ((rd_T44 l0 x39_2).f1) ((rd_T44 l0 x39_2).f2.f0) ((rd_T44 l0 x39_2).f2.f1) ((rd_T44 l0 x39_2).f3.f0) ((rd_T44 l0 x39_2).f3.f1) ((rd_T44 l0 x39_2).f4.f0) ((rd_T44 l0 x39_2).f4.f1.f0) ((rd_T44 l0 x39_2).f4.f1.f1) ((rd_T44 l0 x39_2).f4.f2.f0) ((rd_T44 l0 x39_2).f4.f2.f1) ((rd_T44 l0 x39_2).f4.f3) ((rd_T44 l0 x39_2).f4.f4) ((rd_T44 l0 x39_2).f4.f5) ((rd_T44 l0 x39_2).f4.f6) ((rd_T44 l0 x39_2).f5) ((rd_T44 l0 x39_2).f6.f0) ((rd_T44 l0 x39_2).f6.f1) ((rd_T44 l0 x39_2).f6.f2) ((rd_T44 l0 x39_2).f6.f3) ((rd_T44 l0 x39_2).f6.f4) ((rd_T44 l0 x39_2).f6.f5) ((rd_T44 l0 x39_2).f6.f6) ((rd_T44 l0 x39_2).f7) = some r) ∧ Aside0 (kq ≤ kj44) ∧ Aside0 (Kd.V k61 61 wc w.heap.size (fun k_ => ((P2_6_ k_ ∨ P2_7_ k_) ∨ w.heap.size ≤ k_) ∧ k_ ≠ gb623 ∧ k_ ≠ gb624 ∧ k_ ≠ gb642 ∧ k_ ≠ gb643 ∧ k_ ≠ gb646) (.slice A2_6 l2_6.length c2_6) l2_6) ∧ Aside0 (Kd.V k46 46 wc w.heap.size (fun k_ => ((P2_6_ k_ ∨ P2_7_ k_) ∨ w.heap.size ≤ k_) ∧ k_ ≠ gb623 ∧ k_ ≠ gb624 ∧ k_ ≠ gb642 ∧ k_ ≠ gb643 ∧ k_ ≠ gb646) (.slice A2_7 l2_7.length c2_7) l2_7) ∧ Aside0 (Kd.V k61 61 wc w.heap.size (fun k_ => ((P2_6_ k_ ∨ P2_7_ k_) ∨ w.heap.size ≤ k_) ∧ k_ ≠ gb623 ∧ k_ ≠ gb624 ∧ k_ ≠ gb642 ∧ k_ ≠ gb643 ∧ k_ ≠ gb646) (.slice A2_6 l2_6.length c2_6) l2_6) ∧ Aside0 (Kd.V k46 46 wc w.heap.size (fun k_ => ((P2_6_ k_ ∨ P2_7_ k_) ∨ w.heap.size ≤ k_) ∧ k_ ≠ gb623 ∧ k_ ≠ gb624 ∧ k_ ≠ gb642 ∧ k_ ≠ gb643 ∧ k_ ≠ gb646) (.slice A2_7 l2_7.length c2_7) l2_7) ∧ Aside0 (wc.heap[gb623]? = some (.cells #[.int .i64 a1_0, .int .i64 a1_1] 24 (0, 0))) ∧ Aside0 (wc.heap[gb624]? = some (.cells #[.int .i64 a2_0, .int .i64 a2_1, .int .i64 a2_2, .int .i64 a2_3, .int .i64 a2_4, .int .i64 a2_5, (.slice A2_6 l2_6.length c2_6), (.slice A2_7 l2_7.length c2_7), .bool a2_8] 32 (0, 0))) ∧ Aside0 (wc.heap[gb642]? = some (.cells #[.int .i64 t635, .int .i64 t636, .int .i64 t637, .int .i64 t638, .int .i64 t639, .int .i64 t640, .int .i64 t641] 42 (0, 0))) ∧ Aside0 (wc.heap[gb643]? = some (.cells #[.int .i64 a1_0, .int .i64 a1_1, .int .i64 1, .int .i64 0, .int .i64 0, .int .i64 0, .int .i64 0, .int .i64 a2_0, .int .i64 a2_1, .int .i64 a2_2, .int .i64 a2_3, .int .i64 a2_4, .int .i64 a2_5, (.slice A2_6 l2_6.length c2_6), (.slice A2_7 l2_7.length c2_7), .bool a2_8, .int .i64 t634, .int .i64 t635, .int .i64 t636, .int .i64 t637, .int .i64 t638, .int .i64 t639, .int .i64 t640, .int .i64 t641, .bool false] 44 (0, 0))) ∧ Aside0 (wc.heap[gb646]? = some (.cells #[.int .i64 ((rd_T44 l0 x39_2).f0.f0), .int .i64 ((rd_T44 l0 x39_2).f0.f1), .int .i64 ((rd_T44 l0 x39_2).f1), .int .i64 ((rd_T44 l0 x39_2).f2.f0), .int .i64 ((rd_T44 l0 x39_2).f2.f1), .int .i64 ((rd_T44 l0 x39_2).f3.f0), .int .i64 ((rd_T44 l0 x39_2).f3.f1), .int .i64 ((rd_T44 l0 x39_2).f4.f0), .int .i64 ((rd_T44 l0 x39_2).f4.f1.f0), .int .i64 ((rd_T44 l0 x39_2).f4.f1.f1), .int .i64 ((rd_T44 l0 x39_2).f4.f2.f0), .int .i64 ((rd_T44 l0 x39_2).f4.f2.f1), .int .i64 ((rd_T44 l0 x39_2).f4.f3), (.slice A645_13 ((rd_T44 l0 x39_2).f4.f4).length c645_13), (.slice A645_14 ((rd_T44 l0 x39_2).f4.f5).length c645_14), .bool ((rd_T44 l0 x39_2).f4.f6), .int .i64 ((rd_T44 l0 x39_2).f5), .int .i64 ((rd_T44 l0 x39_2).f6.f0), .int .i64 ((rd_T44 l0 x39_2).f6.f1), .int .i64 ((rd_T44 l0 x39_2).f6.f2), .int .i64 ((rd_T44 l0 x39_2).f6.f3), .int .i64 ((rd_T44 l0 x39_2).f6.f4), .int .i64 ((rd_T44 l0 x39_2).f6.f5), .int .i64 ((rd_T44 l0 x39_2).f6.f6), .bool ((rd_T44 l0 x39_2).f7)] 44 (0, 0))) ∧ Aside0 (Below w.heap.size w wc))
                 case first =>
                  have H := HC83.out
                  clear HC83
                  by_cases c84 : ((rd_T44 l0 x39_2).f0.f0) ≥ 0
                  · rw [if_pos c84] at H
                    have c84b0 : decide (0 ≤ ((rd_T44 l0 x39_2).f0.f0)) = true := decide_eq_true c84
                    clear c84
                    (first | rw [c84b0] | (simp only [i64_w, i32_w]; rw [c84b0]) | skip)
                    by_cases c85 : ((rd_T44 l0 x39_2).f0.f0) ≤ 6
                    · rw [if_pos c85] at H
                      have c85b0 : decide (((rd_T44 l0 x39_2).f0.f0) ≤ 6) = true := decide_eq_true c85
                      clear c85
                      have H' := Aside0.mk H
                      clear H
                      have hnb86 := NB646_623.out
                      have hnc86 := NB623_646.out
                      have hnb87 := NB646_624.out
                      have hnc87 := NB624_646.out
                      have hnb88 := NB646_642.out
                      have hnc88 := NB642_646.out
                      have hnb89 := NB646_643.out
                      have hnc89 := NB643_646.out
                      refine blk25_ BK646.out fun hcz90_0 hcz90_1 hcz90_2 hcz90_3 hcz90_4 hcz90_5 hcz90_6 hcz90_7 hcz90_8 hcz90_9 hcz90_10 hcz90_11 hcz90_12 hcz90_13 hcz90_14 hcz90_15 hcz90_16 hcz90_17 hcz90_18 hcz90_19 hcz90_20 hcz90_21 hcz90_22 hcz90_23 hcz90_24 hfz90_0 hfz90_1 hfz90_2 hfz90_3 hfz90_4 hfz90_5 hfz90_6 hfz90_7 hfz90_8 hfz90_9 hfz90_10 hfz90_11 hfz90_12 hfz90_13 hfz90_14 hfz90_15 hfz90_16 hfz90_17 hfz90_18 hfz90_19 hfz90_20 hfz90_21 hfz90_22 hfz90_23 hfz90_24 => ?_
                      go_wp2
                      go_meet
                      case rel => exact ⟨_, (decide (((rd_T44 l0 x39_2).f0.f1) ≥ 1)), (by first | rfl | (simp; done) | (simp [*]; done)), H', ⟨by have := HJ3.out; have := HK2.out; have := HJ44.out; first | omega | exact Nat.le_refl _⟩, ⟨by (with_reducible repeat (first | apply Kd.V_alloc | apply Kd.V_drewN | apply Kd.V_drew)); exact HO_625006.out⟩, ⟨by (with_reducible repeat (first | apply Kd.V_alloc | apply Kd.V_drewN | apply Kd.V_drew)); exact HO_625007.out⟩, ⟨by (with_reducible repeat (first | apply Kd.V_alloc | apply Kd.V_drewN | apply Kd.V_drew)); exact HO_644013.out⟩, ⟨by (with_reducible repeat (first | apply Kd.V_alloc | apply Kd.V_drewN | apply Kd.V_drew)); exact HO_644014.out⟩, ⟨by (with_reducible repeat (first | refine blk_drewN ?_ _ | refine blk_drew ?_ | refine blk_alloc ?_ _)); exact BK623.out⟩, ⟨by (with_reducible repeat (first | refine blk_drewN ?_ _ | refine blk_drew ?_ | refine blk_alloc ?_ _)); exact BK624.out⟩, ⟨by (with_reducible repeat (first | refine blk_drewN ?_ _ | refine blk_drew ?_ | refine blk_alloc ?_ _)); exact BK642.out⟩, ⟨by (with_reducible repeat (first | refine blk_drewN ?_ _ | refine blk_drew ?_ | refine blk_alloc ?_ _)); exact BK643.out⟩, ⟨by (with_reducible repeat (first | refine blk_drewN ?_ _ | refine blk_drew ?_ | refine blk_alloc ?_ _)); exact BK646.out⟩, ⟨by repeat (first | (with_reducible first | exact HB.out | apply below_alloc | apply pw_below_drewN | apply below_drew1 | refine below_set ?_ GE623.out | refine below_set ?_ GE624.out | refine below_set ?_ GE642.out | refine below_set ?_ GE643.out | refine below_set ?_ GE646.out) | exact HB.out)⟩⟩
                    · rw [if_neg c85] at H
                      have c85b0 : decide (((rd_T44 l0 x39_2).f0.f0) ≤ 6) = false := decide_eq_false c85
                      clear c85
                      have H' := Aside0.mk H
                      clear H
                      have hnb91 := NB646_623.out
                      have hnc91 := NB623_646.out
                      have hnb92 := NB646_624.out
                      have hnc92 := NB624_646.out
                      have hnb93 := NB646_642.out
                      have hnc93 := NB642_646.out
                      have hnb94 := NB646_643.out
                      have hnc94 := NB643_646.out
                      refine blk25_ BK646.out fun hcz95_0 hcz95_1 hcz95_2 hcz95_3 hcz95_4 hcz95_5 hcz95_6 hcz95_7 hcz95_8 hcz95_9 hcz95_10 hcz95_11 hcz95_12 hcz95_13 hcz95_14 hcz95_15 hcz95_16 hcz95_17 hcz95_18 hcz95_19 hcz95_20 hcz95_21 hcz95_22 hcz95_23 hcz95_24 hfz95_0 hfz95_1 hfz95_2 hfz95_3 hfz95_4 hfz95_5 hfz95_6 hfz95_7 hfz95_8 hfz95_9 hfz95_10 hfz95_11 hfz95_12 hfz95_13 hfz95_14 hfz95_15 hfz95_16 hfz95_17 hfz95_18 hfz95_19 hfz95_20 hfz95_21 hfz95_22 hfz95_23 hfz95_24 => ?_
                      go_wp2
                      go_meet
                      case rel => exact ⟨_, (false), (by first | rfl | (simp; done) | (simp [*]; done)), H', ⟨by have := HJ3.out; have := HK2.out; have := HJ44.out; first | omega | exact Nat.le_refl _⟩, ⟨by (with_reducible repeat (first | apply Kd.V_alloc | apply Kd.V_drewN | apply Kd.V_drew)); exact HO_625006.out⟩, ⟨by (with_reducible repeat (first | apply Kd.V_alloc | apply Kd.V_drewN | apply Kd.V_drew)); exact HO_625007.out⟩, ⟨by (with_reducible repeat (first | apply Kd.V_alloc | apply Kd.V_drewN | apply Kd.V_drew)); exact HO_644013.out⟩, ⟨by (with_reducible repeat (first | apply Kd.V_alloc | apply Kd.V_drewN | apply Kd.V_drew)); exact HO_644014.out⟩, ⟨by (with_reducible repeat (first | refine blk_drewN ?_ _ | refine blk_drew ?_ | refine blk_alloc ?_ _)); exact BK623.out⟩, ⟨by (with_reducible repeat (first | refine blk_drewN ?_ _ | refine blk_drew ?_ | refine blk_alloc ?_ _)); exact BK624.out⟩, ⟨by (with_reducible repeat (first | refine blk_drewN ?_ _ | refine blk_drew ?_ | refine blk_alloc ?_ _)); exact BK642.out⟩, ⟨by (with_reducible repeat (first | refine blk_drewN ?_ _ | refine blk_drew ?_ | refine blk_alloc ?_ _)); exact BK643.out⟩, ⟨by (with_reducible repeat (first | refine blk_drewN ?_ _ | refine blk_drew ?_ | refine blk_alloc ?_ _)); exact BK646.out⟩, ⟨by repeat (first | (with_reducible first | exact HB.out | apply below_alloc | apply pw_below_drewN | apply below_drew1 | refine below_set ?_ GE623.out | refine below_set ?_ GE624.out | refine below_set ?_ GE642.out | refine below_set ?_ GE643.out | refine below_set ?_ GE646.out) | exact HB.out)⟩⟩
                  · rw [if_neg c84] at H
                    have c84b0 : decide (0 ≤ ((rd_T44 l0 x39_2).f0.f0)) = false := decide_eq_false c84
                    clear c84
                    (first | rw [c84b0] | (simp only [i64_w, i32_w]; rw [c84b0]) | skip)
                    have H' := Aside0.mk H
                    clear H
                    have hnb96 := NB646_623.out
                    have hnc96 := NB623_646.out
                    have hnb97 := NB646_624.out
                    have hnc97 := NB624_646.out
                    have hnb98 := NB646_642.out
                    have hnc98 := NB642_646.out
                    have hnb99 := NB646_643.out
                    have hnc99 := NB643_646.out
                    refine blk25_ BK646.out fun hcz100_0 hcz100_1 hcz100_2 hcz100_3 hcz100_4 hcz100_5 hcz100_6 hcz100_7 hcz100_8 hcz100_9 hcz100_10 hcz100_11 hcz100_12 hcz100_13 hcz100_14 hcz100_15 hcz100_16 hcz100_17 hcz100_18 hcz100_19 hcz100_20 hcz100_21 hcz100_22 hcz100_23 hcz100_24 hfz100_0 hfz100_1 hfz100_2 hfz100_3 hfz100_4 hfz100_5 hfz100_6 hfz100_7 hfz100_8 hfz100_9 hfz100_10 hfz100_11 hfz100_12 hfz100_13 hfz100_14 hfz100_15 hfz100_16 hfz100_17 hfz100_18 hfz100_19 hfz100_20 hfz100_21 hfz100_22 hfz100_23 hfz100_24 => ?_
                    go_wp2
                    go_meet
                    case rel => exact ⟨_, (false), (by first | rfl | (simp; done) | (simp [*]; done)), H', ⟨by have := HJ3.out; have := HK2.out; have := HJ44.out; first | omega | exact Nat.le_refl _⟩, ⟨by (with_reducible repeat (first | apply Kd.V_alloc | apply Kd.V_drewN | apply Kd.V_drew)); exact HO_625006.out⟩, ⟨by (with_reducible repeat (first | apply Kd.V_alloc | apply Kd.V_drewN | apply Kd.V_drew)); exact HO_625007.out⟩, ⟨by (with_reducible repeat (first | apply Kd.V_alloc | apply Kd.V_drewN | apply Kd.V_drew)); exact HO_644013.out⟩, ⟨by (with_reducible repeat (first | apply Kd.V_alloc | apply Kd.V_drewN | apply Kd.V_drew)); exact HO_644014.out⟩, ⟨by (with_reducible repeat (first | refine blk_drewN ?_ _ | refine blk_drew ?_ | refine blk_alloc ?_ _)); exact BK623.out⟩, ⟨by (with_reducible repeat (first | refine blk_drewN ?_ _ | refine blk_drew ?_ | refine blk_alloc ?_ _)); exact BK624.out⟩, ⟨by (with_reducible repeat (first | refine blk_drewN ?_ _ | refine blk_drew ?_ | refine blk_alloc ?_ _)); exact BK642.out⟩, ⟨by (with_reducible repeat (first | refine blk_drewN ?_ _ | refine blk_drew ?_ | refine blk_alloc ?_ _)); exact BK643.out⟩, ⟨by (with_reducible repeat (first | refine blk_drewN ?_ _ | refine blk_drew ?_ | refine blk_alloc ?_ _)); exact BK646.out⟩, ⟨by repeat (first | (with_reducible first | exact HB.out | apply below_alloc | apply pw_below_drewN | apply below_drew1 | refine below_set ?_ GE623.out | refine below_set ?_ GE624.out | refine below_set ?_ GE642.out | refine below_set ?_ GE643.out | refine below_set ?_ GE646.out) | exact HB.out)⟩⟩
                 case rest =>
                  clear HC83
                  try clear c1
                  try clear c2
                  try clear p2
                  try clear c3
                  try clear c4
                  try clear c5
                  try clear c6
                  try clear p6
                  try clear q6
                  try clear hx6
                  try clear c7
                  try clear c8
                  try clear c9
                  try clear c13
                  try clear c21
                  try clear c24
                  try clear c35
                  try clear c36
                  try clear c38
                  try clear c42
                  try clear c42b0
                  try clear c43
                  try clear c43b0
                  try clear c44
                  try clear c44b0
                  try clear c49
                  try clear c50
                  try clear c50b0
                  try clear c50b1
                  try clear c50b2
                  try clear c51
                  try clear c52
                  try clear c53
                  try clear c54
                  try clear c56
                  try clear c57
                  try clear c58
                  try clear c60
                  try clear c60b0
                  try clear c61
                  try clear c62
                  try clear c63
                  try clear c64
                  try clear p64
                  try clear q64
                  try clear hx64
                  try clear c66
                  try clear c67
                  try clear c68
                  try clear c71
                  try clear c72
                  try clear c73
                  try clear c74
                  try clear c76
                  try clear c77
                  try clear c78
                  try clear c82
                  try clear c84
                  try clear c84b0
                  try clear c85
                  try clear c85b0
                  try clear c86
                  try clear c87
                  try clear c88
                  try clear c89
                  try clear c91
                  try clear c92
                  try clear c93
                  try clear c94
                  try clear c96
                  try clear c97
                  try clear c98
                  try clear c99
                  try clear hcz100_0 hcz100_1 hcz100_10 hcz100_11 hcz100_12 hcz100_13 hcz100_14 hcz100_15 hcz100_16 hcz100_17 hcz100_18 hcz100_19 hcz100_2 hcz100_20 hcz100_21 hcz100_22 hcz100_23 hcz100_24 hcz100_3 hcz100_4 hcz100_5 hcz100_6 hcz100_7 hcz100_8 hcz100_9
                  try clear hcz37_0 hcz37_1
                  try clear hcz39_0 hcz39_1 hcz39_2 hcz39_3 hcz39_4 hcz39_5 hcz39_6 hcz39_7 hcz39_8
                  try clear hcz40_0 hcz40_1 hcz40_2 hcz40_3 hcz40_4 hcz40_5 hcz40_6
                  try clear hcz55_0 hcz55_1 hcz55_10 hcz55_11 hcz55_12 hcz55_13 hcz55_14 hcz55_15 hcz55_16 hcz55_17 hcz55_18 hcz55_19 hcz55_2 hcz55_20 hcz55_21 hcz55_22 hcz55_23 hcz55_24 hcz55_3 hcz55_4 hcz55_5 hcz55_6 hcz55_7 hcz55_8 hcz55_9
                  try clear hcz59_0 hcz59_1
                  try clear hcz65_0 hcz65_1 hcz65_10 hcz65_11 hcz65_12 hcz65_13 hcz65_14 hcz65_15 hcz65_16 hcz65_17 hcz65_18 hcz65_19 hcz65_2 hcz65_20 hcz65_21 hcz65_22 hcz65_23 hcz65_24 hcz65_3 hcz65_4 hcz65_5 hcz65_6 hcz65_7 hcz65_8 hcz65_9
                  try clear hcz69_0 hcz69_1
                  try clear hcz75_0 hcz75_1 hcz75_10 hcz75_11 hcz75_12 hcz75_13 hcz75_14 hcz75_15 hcz75_16 hcz75_17 hcz75_18 hcz75_19 hcz75_2 hcz75_20 hcz75_21 hcz75_22 hcz75_23 hcz75_24 hcz75_3 hcz75_4 hcz75_5 hcz75_6 hcz75_7 hcz75_8 hcz75_9
                  try clear hcz79_0 hcz79_1
                  try clear hcz90_0 hcz90_1 hcz90_10 hcz90_11 hcz90_12 hcz90_13 hcz90_14 hcz90_15 hcz90_16 hcz90_17 hcz90_18 hcz90_19 hcz90_2 hcz90_20 hcz90_21 hcz90_22 hcz90_23 hcz90_24 hcz90_3 hcz90_4 hcz90_5 hcz90_6 hcz90_7 hcz90_8 hcz90_9
                  try clear hcz95_0 hcz95_1 hcz95_10 hcz95_11 hcz95_12 hcz95_13 hcz95_14 hcz95_15 hcz95_16 hcz95_17 hcz95_18 hcz95_19 hcz95_2 hcz95_20 hcz95_21 hcz95_22 hcz95_23 hcz95_24 hcz95_3 hcz95_4 hcz95_5 hcz95_6 hcz95_7 hcz95_8 hcz95_9
                  try clear hfz100_0 hfz100_1 hfz100_10 hfz100_11 hfz100_12 hfz100_13 hfz100_14 hfz100_15 hfz100_16 hfz100_17 hfz100_18 hfz100_19 hfz100_2 hfz100_20 hfz100_21 hfz100_22 hfz100_23 hfz100_24 hfz100_3 hfz100_4 hfz100_5 hfz100_6 hfz100_7 hfz100_8 hfz100_9
                  try clear hfz37_0 hfz37_1
                  try clear hfz39_0 hfz39_1 hfz39_2 hfz39_3 hfz39_4 hfz39_5 hfz39_6 hfz39_7 hfz39_8
                  try clear hfz40_0 hfz40_1 hfz40_2 hfz40_3 hfz40_4 hfz40_5 hfz40_6
                  try clear hfz55_0 hfz55_1 hfz55_10 hfz55_11 hfz55_12 hfz55_13 hfz55_14 hfz55_15 hfz55_16 hfz55_17 hfz55_18 hfz55_19 hfz55_2 hfz55_20 hfz55_21 hfz55_22 hfz55_23 hfz55_24 hfz55_3 hfz55_4 hfz55_5 hfz55_6 hfz55_7 hfz55_8 hfz55_9
                  try clear hfz59_0 hfz59_1
                  try clear hfz65_0 hfz65_1 hfz65_10 hfz65_11 hfz65_12 hfz65_13 hfz65_14 hfz65_15 hfz65_16 hfz65_17 hfz65_18 hfz65_19 hfz65_2 hfz65_20 hfz65_21 hfz65_22 hfz65_23 hfz65_24 hfz65_3 hfz65_4 hfz65_5 hfz65_6 hfz65_7 hfz65_8 hfz65_9
                  try clear hfz69_0 hfz69_1
                  try clear hfz75_0 hfz75_1 hfz75_10 hfz75_11 hfz75_12 hfz75_13 hfz75_14 hfz75_15 hfz75_16 hfz75_17 hfz75_18 hfz75_19 hfz75_2 hfz75_20 hfz75_21 hfz75_22 hfz75_23 hfz75_24 hfz75_3 hfz75_4 hfz75_5 hfz75_6 hfz75_7 hfz75_8 hfz75_9
                  try clear hfz79_0 hfz79_1
                  try clear hfz90_0 hfz90_1 hfz90_10 hfz90_11 hfz90_12 hfz90_13 hfz90_14 hfz90_15 hfz90_16 hfz90_17 hfz90_18 hfz90_19 hfz90_2 hfz90_20 hfz90_21 hfz90_22 hfz90_23 hfz90_24 hfz90_3 hfz90_4 hfz90_5 hfz90_6 hfz90_7 hfz90_8 hfz90_9
                  try clear hfz95_0 hfz95_1 hfz95_10 hfz95_11 hfz95_12 hfz95_13 hfz95_14 hfz95_15 hfz95_16 hfz95_17 hfz95_18 hfz95_19 hfz95_2 hfz95_20 hfz95_21 hfz95_22 hfz95_23 hfz95_24 hfz95_3 hfz95_4 hfz95_5 hfz95_6 hfz95_7 hfz95_8 hfz95_9
                  try clear hx645_0
                  try clear hx645_1
                  try clear hx645_10
                  try clear hx645_11
                  try clear hx645_12
                  try clear hx645_13
                  try clear hx645_14
                  try clear hx645_15
                  try clear hx645_16
                  try clear hx645_17
                  try clear hx645_18
                  try clear hx645_19
                  try clear hx645_2
                  try clear hx645_20
                  try clear hx645_21
                  try clear hx645_22
                  try clear hx645_23
                  try clear hx645_24
                  try clear hx645_3
                  try clear hx645_4
                  try clear hx645_5
                  try clear hx645_6
                  try clear hx645_7
                  try clear hx645_8
                  try clear hx645_9
                  try clear p2
                  try clear p6
                  try clear p64
                  try clear p645
                  try clear q6
                  try clear q64
                  try clear q645
                  obtain ⟨kq, x12_82, rfl, HA, HJ82, HO_625006, HO_625007, HO_644013, HO_644014, BK623, BK624, BK642, BK643, BK646, HB⟩ := hcut
                  cases kq with
                  | zero => exact absurd HA.out (by simp [althinglaw11_IndexOrders.j3])
                  | succ kj82 =>
                   have H := HA.out
                   clear HA
                   simp only [althinglaw11_IndexOrders.j3] at H
                   by_cases c101 : x12_82 = true
                   · subst c101
                     rw [if_pos rfl] at H
                     obtain ⟨t649, A102, H⟩ := bs_ H
                     by_cases c103 : t649 = true
                     · subst c103
                       rw [if_pos rfl] at H
                       obtain ⟨t650, A104, H⟩ := bs_ H
                       by_cases c105 : t650 = true
                       · subst c105
                         rw [if_pos rfl] at H
                         by_cases c106 : ((rd_T44 l0 x39_2).f5) < 1099511627776
                         · rw [if_pos c106] at H
                           have c106b0 : decide (((rd_T44 l0 x39_2).f5) < 1099511627776) = true := decide_eq_true c106
                           clear c106
                           by_cases c107 : t634 ≤ ((rd_T44 l0 x39_2).f5)
                           · rw [if_pos c107] at H
                             exact absurd H (by simp)
                           · rw [if_neg c107] at H
                             have c107b0 : decide (t634 ≤ ((rd_T44 l0 x39_2).f5)) = false := decide_eq_false c107
                             clear c107
                             have H' := Aside0.mk H
                             clear H
                             go_wp2_with (first | ((with_reducible refine gate_dst (N := 84) rfl ?_); (try (refine gate_guard (by rfl) ?_; dsimp only)); refine blk_load_event ?lg (N := 84) ?ld (t := 44) (x := ?lxxz108) ?lo (g := gb643) ?lx (cs := _) BK643.out ?lD ?lt ?_; (case lg => rfl); (case ld => rfl); (case lo => rfl); (case lx => first | rfl | (go_simp; done) | (go_simp; rfl)); (case lD => exact ⟨_, Try.underlying44, rfl⟩); (case lt => kernel_rfl)) | ((with_reducible refine gate_dst (N := 85) rfl ?_); (try (refine gate_guard (by rfl) ?_; dsimp only)); refine blk_load_event ?lg (N := 85) ?ld (t := 44) (x := ?lxxz109) ?lo (g := gb646) ?lx (cs := _) BK646.out ?lD ?lt ?_; (case lg => rfl); (case ld => rfl); (case lo => rfl); (case lx => first | rfl | (go_simp; done) | (go_simp; rfl)); (case lD => exact ⟨_, Try.underlying44, rfl⟩); (case lt => kernel_rfl)) | (go_at_call 26; (with_reducible refine (index_Ordered.calls kj82 a1_0 a1_1 1 0 0 0 0 a2_0 a2_1 a2_2 a2_3 a2_4 a2_5 _ _ l2_6 _ _ l2_7 a2_8 t634 t635 t636 t637 t638 t639 t640 t641 false ((rd_T44 l0 x39_2).f0.f0) ((rd_T44 l0 x39_2).f0.f1) ((rd_T44 l0 x39_2).f1) ((rd_T44 l0 x39_2).f2.f0) ((rd_T44 l0 x39_2).f2.f1) ((rd_T44 l0 x39_2).f3.f0) ((rd_T44 l0 x39_2).f3.f1) ((rd_T44 l0 x39_2).f4.f0) ((rd_T44 l0 x39_2).f4.f1.f0) ((rd_T44 l0 x39_2).f4.f1.f1) ((rd_T44 l0 x39_2).f4.f2.f0) ((rd_T44 l0 x39_2).f4.f2.f1) ((rd_T44 l0 x39_2).f4.f3) _ _ ((rd_T44 l0 x39_2).f4.f4) _ _ ((rd_T44 l0 x39_2).f4.f5) ((rd_T44 l0 x39_2).f4.f6) ((rd_T44 l0 x39_2).f5) ((rd_T44 l0 x39_2).f6.f0) ((rd_T44 l0 x39_2).f6.f1) ((rd_T44 l0 x39_2).f6.f2) ((rd_T44 l0 x39_2).f6.f3) ((rd_T44 l0 x39_2).f6.f4) ((rd_T44 l0 x39_2).f6.f5) ((rd_T44 l0 x39_2).f6.f6) ((rd_T44 l0 x39_2).f7) true _ ?side1 ?side2 ?side3 ?side4 ?side5 ?side6 ?side7 ?side8 A102.out).mono ?_); (case side1 => repeat (first | exact (Kd.V_reads' HO_644013.out).2.2 | (with_reducible refine Kd.C_alloc ?_ _) | (with_reducible refine Kd.C_drewN ?_ _) | (with_reducible refine Kd.C_drew ?_))); (case side2 => exact (Kd.V_reads' HO_644013.out).2.1); (case side3 => repeat (first | exact (Kd.V_reads' HO_644014.out).2.2 | (with_reducible refine Kd.C_alloc ?_ _) | (with_reducible refine Kd.C_drewN ?_ _) | (with_reducible refine Kd.C_drew ?_))); (case side4 => exact (Kd.V_reads' HO_644014.out).2.1); (case side5 => exact kc_ (Kd.C_below HR645_13.out HB.out)); (case side6 => exact HC645_13.out); (case side7 => exact kc_ (Kd.C_below HR645_14.out HB.out)); (case side8 => exact HC645_14.out); rintro e w110 ⟨rfl, hb⟩; have n0_ := Aside0.mk (Kd.V_below (kv_ HO_625006.out) hb); have n1_ := Aside0.mk (Kd.V_below (kv_ HO_625007.out) hb); have n2_ := Aside0.mk (Kd.V_below (kv_ HO_644013.out) hb); have n3_ := Aside0.mk (Kd.V_below (kv_ HO_644014.out) hb); have n4_ := Aside0.mk (blk_below (kb_ BK623.out) hb); have n5_ := Aside0.mk (blk_below (kb_ BK624.out) hb); have n6_ := Aside0.mk (blk_below (kb_ BK642.out) hb); have n7_ := Aside0.mk (blk_below (kb_ BK643.out) hb); have n8_ := Aside0.mk (blk_below (kb_ BK646.out) hb); have n9_ := Aside0.mk (below_step (by repeat (first | (with_reducible first | exact HB.out | apply below_alloc | apply pw_below_drewN | apply below_drew1 | refine below_set ?_ GE623.out | refine below_set ?_ GE624.out | refine below_set ?_ GE642.out | refine below_set ?_ GE643.out | refine below_set ?_ GE646.out) | exact HB.out)) hb); clear HO_625006; clear HO_625007; clear HO_644013; clear HO_644014; clear BK623; clear BK624; clear BK642; clear BK643; clear BK646; clear HB; have HO_625006 := n0_; have HO_625007 := n1_; have HO_644013 := n2_; have HO_644014 := n3_; have BK623 := n4_; have BK624 := n5_; have BK642 := n6_; have BK643 := n7_; have BK646 := n8_; have HB := n9_; clear n0_ n1_ n2_ n3_ n4_ n5_ n6_ n7_ n8_ n9_; (try clear hb); (try clear hb2); (try clear hk); (try clear hi); have hnb112 := NB646_623.out; have hnc112 := NB623_646.out; have hnb113 := NB646_624.out; have hnc113 := NB624_646.out; have hnb114 := NB646_642.out; have hnc114 := NB642_646.out; have hnb115 := NB646_643.out; have hnc115 := NB643_646.out; refine blk25_ BK646.out fun hcz116_0 hcz116_1 hcz116_2 hcz116_3 hcz116_4 hcz116_5 hcz116_6 hcz116_7 hcz116_8 hcz116_9 hcz116_10 hcz116_11 hcz116_12 hcz116_13 hcz116_14 hcz116_15 hcz116_16 hcz116_17 hcz116_18 hcz116_19 hcz116_20 hcz116_21 hcz116_22 hcz116_23 hcz116_24 hfz116_0 hfz116_1 hfz116_2 hfz116_3 hfz116_4 hfz116_5 hfz116_6 hfz116_7 hfz116_8 hfz116_9 hfz116_10 hfz116_11 hfz116_12 hfz116_13 hfz116_14 hfz116_15 hfz116_16 hfz116_17 hfz116_18 hfz116_19 hfz116_20 hfz116_21 hfz116_22 hfz116_23 hfz116_24 => ?_) | ((with_reducible refine gate_dst (N := 89) rfl ?_); (try (refine gate_guard (by rfl) ?_; dsimp only)); refine blk_load_event ?lg (N := 89) ?ld (t := 42) (x := ?lxxz111) ?lo (g := gb642) ?lx (cs := _) BK642.out ?lD ?lt ?_; (case lg => rfl); (case ld => rfl); (case lo => rfl); (case lx => first | rfl | (go_simp; done) | (go_simp; rfl)); (case lD => exact ⟨_, Try.underlying42, rfl⟩); (case lt => kernel_rfl)) | (go_at_call 27; (with_reducible refine (althingref03_Has.calls t635 t636 t637 t638 t639 t640 t641 ((rd_T44 l0 x39_2).f0.f0) ((rd_T44 l0 x39_2).f0.f1) true _ A104.out).mono ?_); rintro e w117 ⟨rfl, hb⟩; have n0_ := Aside0.mk (Kd.V_below (kv_ HO_625006.out) hb); have n1_ := Aside0.mk (Kd.V_below (kv_ HO_625007.out) hb); have n2_ := Aside0.mk (Kd.V_below (kv_ HO_644013.out) hb); have n3_ := Aside0.mk (Kd.V_below (kv_ HO_644014.out) hb); have n4_ := Aside0.mk (blk_below (kb_ BK623.out) hb); have n5_ := Aside0.mk (blk_below (kb_ BK624.out) hb); have n6_ := Aside0.mk (blk_below (kb_ BK642.out) hb); have n7_ := Aside0.mk (blk_below (kb_ BK643.out) hb); have n8_ := Aside0.mk (blk_below (kb_ BK646.out) hb); have n9_ := Aside0.mk (below_step (by repeat (first | (with_reducible first | exact HB.out | apply below_alloc | apply pw_below_drewN | apply below_drew1 | refine below_set ?_ GE623.out | refine below_set ?_ GE624.out | refine below_set ?_ GE642.out | refine below_set ?_ GE643.out | refine below_set ?_ GE646.out) | exact HB.out)) hb); clear HO_625006; clear HO_625007; clear HO_644013; clear HO_644014; clear BK623; clear BK624; clear BK642; clear BK643; clear BK646; clear HB; have HO_625006 := n0_; have HO_625007 := n1_; have HO_644013 := n2_; have HO_644014 := n3_; have BK623 := n4_; have BK624 := n5_; have BK642 := n6_; have BK643 := n7_; have BK646 := n8_; have HB := n9_; clear n0_ n1_ n2_ n3_ n4_ n5_ n6_ n7_ n8_ n9_; (try clear hb); (try clear hb2); (try clear hk); (try clear hi); refine blk25_ BK646.out fun hcz118_0 hcz118_1 hcz118_2 hcz118_3 hcz118_4 hcz118_5 hcz118_6 hcz118_7 hcz118_8 hcz118_9 hcz118_10 hcz118_11 hcz118_12 hcz118_13 hcz118_14 hcz118_15 hcz118_16 hcz118_17 hcz118_18 hcz118_19 hcz118_20 hcz118_21 hcz118_22 hcz118_23 hcz118_24 hfz118_0 hfz118_1 hfz118_2 hfz118_3 hfz118_4 hfz118_5 hfz118_6 hfz118_7 hfz118_8 hfz118_9 hfz118_10 hfz118_11 hfz118_12 hfz118_13 hfz118_14 hfz118_15 hfz118_16 hfz118_17 hfz118_18 hfz118_19 hfz118_20 hfz118_21 hfz118_22 hfz118_23 hfz118_24 => ?_))
                             go_roundg kj82
                             case measure => have := HJ3.out; have := HK2.out; have := HJ44.out; have := HJ82.out; omega
                             case rel => exact ⟨(wrap64 (x39_2 + 1)), (by first | rfl | (simp; done) | (simp [*]; done)), H', ⟨by have := HJ3.out; have := HK2.out; have := HJ44.out; have := HJ82.out; omega⟩, ⟨by (with_reducible repeat (first | apply Kd.V_alloc | apply Kd.V_drewN | apply Kd.V_drew)); exact Kd.V_mono HO_625006.out (fun _ hk => ⟨hk.1, ⟨hk.2.1, ⟨hk.2.2.1, ⟨hk.2.2.2.1, hk.2.2.2.2.1⟩⟩⟩⟩)⟩, ⟨by (with_reducible repeat (first | apply Kd.V_alloc | apply Kd.V_drewN | apply Kd.V_drew)); exact Kd.V_mono HO_625007.out (fun _ hk => ⟨hk.1, ⟨hk.2.1, ⟨hk.2.2.1, ⟨hk.2.2.2.1, hk.2.2.2.2.1⟩⟩⟩⟩)⟩, ⟨by (with_reducible repeat (first | apply Kd.V_alloc | apply Kd.V_drewN | apply Kd.V_drew)); exact Kd.V_mono HO_644013.out (fun _ hk => ⟨hk.1, ⟨hk.2.1, ⟨hk.2.2.1, ⟨hk.2.2.2.1, hk.2.2.2.2.1⟩⟩⟩⟩)⟩, ⟨by (with_reducible repeat (first | apply Kd.V_alloc | apply Kd.V_drewN | apply Kd.V_drew)); exact Kd.V_mono HO_644014.out (fun _ hk => ⟨hk.1, ⟨hk.2.1, ⟨hk.2.2.1, ⟨hk.2.2.2.1, hk.2.2.2.2.1⟩⟩⟩⟩)⟩, ⟨by (with_reducible repeat (first | refine blk_drewN ?_ _ | refine blk_drew ?_ | refine blk_alloc ?_ _)); exact BK623.out⟩, ⟨by (with_reducible repeat (first | refine blk_drewN ?_ _ | refine blk_drew ?_ | refine blk_alloc ?_ _)); exact BK624.out⟩, ⟨by (with_reducible repeat (first | refine blk_drewN ?_ _ | refine blk_drew ?_ | refine blk_alloc ?_ _)); exact BK642.out⟩, ⟨by (with_reducible repeat (first | refine blk_drewN ?_ _ | refine blk_drew ?_ | refine blk_alloc ?_ _)); exact BK643.out⟩, ⟨by repeat (first | (with_reducible first | exact HB.out | apply below_alloc | apply pw_below_drewN | apply below_drew1 | refine below_set ?_ GE623.out | refine below_set ?_ GE624.out | refine below_set ?_ GE642.out | refine below_set ?_ GE643.out | refine below_set ?_ GE646.out) | exact HB.out)⟩⟩
                         · rw [if_neg c106] at H
                           have c106b0 : decide (((rd_T44 l0 x39_2).f5) < 1099511627776) = false := decide_eq_false c106
                           clear c106
                           have H' := Aside0.mk H
                           clear H
                           go_wp2_with (first | ((with_reducible refine gate_dst (N := 84) rfl ?_); (try (refine gate_guard (by rfl) ?_; dsimp only)); refine blk_load_event ?lg (N := 84) ?ld (t := 44) (x := ?lxxz119) ?lo (g := gb643) ?lx (cs := _) BK643.out ?lD ?lt ?_; (case lg => rfl); (case ld => rfl); (case lo => rfl); (case lx => first | rfl | (go_simp; done) | (go_simp; rfl)); (case lD => exact ⟨_, Try.underlying44, rfl⟩); (case lt => kernel_rfl)) | ((with_reducible refine gate_dst (N := 85) rfl ?_); (try (refine gate_guard (by rfl) ?_; dsimp only)); refine blk_load_event ?lg (N := 85) ?ld (t := 44) (x := ?lxxz120) ?lo (g := gb646) ?lx (cs := _) BK646.out ?lD ?lt ?_; (case lg => rfl); (case ld => rfl); (case lo => rfl); (case lx => first | rfl | (go_simp; done) | (go_simp; rfl)); (case lD => exact ⟨_, Try.underlying44, rfl⟩); (case lt => kernel_rfl)) | (go_at_call 26; (with_reducible refine (index_Ordered.calls kj82 a1_0 a1_1 1 0 0 0 0 a2_0 a2_1 a2_2 a2_3 a2_4 a2_5 _ _ l2_6 _ _ l2_7 a2_8 t634 t635 t636 t637 t638 t639 t640 t641 false ((rd_T44 l0 x39_2).f0.f0) ((rd_T44 l0 x39_2).f0.f1) ((rd_T44 l0 x39_2).f1) ((rd_T44 l0 x39_2).f2.f0) ((rd_T44 l0 x39_2).f2.f1) ((rd_T44 l0 x39_2).f3.f0) ((rd_T44 l0 x39_2).f3.f1) ((rd_T44 l0 x39_2).f4.f0) ((rd_T44 l0 x39_2).f4.f1.f0) ((rd_T44 l0 x39_2).f4.f1.f1) ((rd_T44 l0 x39_2).f4.f2.f0) ((rd_T44 l0 x39_2).f4.f2.f1) ((rd_T44 l0 x39_2).f4.f3) _ _ ((rd_T44 l0 x39_2).f4.f4) _ _ ((rd_T44 l0 x39_2).f4.f5) ((rd_T44 l0 x39_2).f4.f6) ((rd_T44 l0 x39_2).f5) ((rd_T44 l0 x39_2).f6.f0) ((rd_T44 l0 x39_2).f6.f1) ((rd_T44 l0 x39_2).f6.f2) ((rd_T44 l0 x39_2).f6.f3) ((rd_T44 l0 x39_2).f6.f4) ((rd_T44 l0 x39_2).f6.f5) ((rd_T44 l0 x39_2).f6.f6) ((rd_T44 l0 x39_2).f7) true _ ?side1 ?side2 ?side3 ?side4 ?side5 ?side6 ?side7 ?side8 A102.out).mono ?_); (case side1 => repeat (first | exact (Kd.V_reads' HO_644013.out).2.2 | (with_reducible refine Kd.C_alloc ?_ _) | (with_reducible refine Kd.C_drewN ?_ _) | (with_reducible refine Kd.C_drew ?_))); (case side2 => exact (Kd.V_reads' HO_644013.out).2.1); (case side3 => repeat (first | exact (Kd.V_reads' HO_644014.out).2.2 | (with_reducible refine Kd.C_alloc ?_ _) | (with_reducible refine Kd.C_drewN ?_ _) | (with_reducible refine Kd.C_drew ?_))); (case side4 => exact (Kd.V_reads' HO_644014.out).2.1); (case side5 => exact kc_ (Kd.C_below HR645_13.out HB.out)); (case side6 => exact HC645_13.out); (case side7 => exact kc_ (Kd.C_below HR645_14.out HB.out)); (case side8 => exact HC645_14.out); rintro e w121 ⟨rfl, hb⟩; have n0_ := Aside0.mk (Kd.V_below (kv_ HO_625006.out) hb); have n1_ := Aside0.mk (Kd.V_below (kv_ HO_625007.out) hb); have n2_ := Aside0.mk (Kd.V_below (kv_ HO_644013.out) hb); have n3_ := Aside0.mk (Kd.V_below (kv_ HO_644014.out) hb); have n4_ := Aside0.mk (blk_below (kb_ BK623.out) hb); have n5_ := Aside0.mk (blk_below (kb_ BK624.out) hb); have n6_ := Aside0.mk (blk_below (kb_ BK642.out) hb); have n7_ := Aside0.mk (blk_below (kb_ BK643.out) hb); have n8_ := Aside0.mk (blk_below (kb_ BK646.out) hb); have n9_ := Aside0.mk (below_step (by repeat (first | (with_reducible first | exact HB.out | apply below_alloc | apply pw_below_drewN | apply below_drew1 | refine below_set ?_ GE623.out | refine below_set ?_ GE624.out | refine below_set ?_ GE642.out | refine below_set ?_ GE643.out | refine below_set ?_ GE646.out) | exact HB.out)) hb); clear HO_625006; clear HO_625007; clear HO_644013; clear HO_644014; clear BK623; clear BK624; clear BK642; clear BK643; clear BK646; clear HB; have HO_625006 := n0_; have HO_625007 := n1_; have HO_644013 := n2_; have HO_644014 := n3_; have BK623 := n4_; have BK624 := n5_; have BK642 := n6_; have BK643 := n7_; have BK646 := n8_; have HB := n9_; clear n0_ n1_ n2_ n3_ n4_ n5_ n6_ n7_ n8_ n9_; (try clear hb); (try clear hb2); (try clear hk); (try clear hi); have hnb123 := NB646_623.out; have hnc123 := NB623_646.out; have hnb124 := NB646_624.out; have hnc124 := NB624_646.out; have hnb125 := NB646_642.out; have hnc125 := NB642_646.out; have hnb126 := NB646_643.out; have hnc126 := NB643_646.out; refine blk25_ BK646.out fun hcz127_0 hcz127_1 hcz127_2 hcz127_3 hcz127_4 hcz127_5 hcz127_6 hcz127_7 hcz127_8 hcz127_9 hcz127_10 hcz127_11 hcz127_12 hcz127_13 hcz127_14 hcz127_15 hcz127_16 hcz127_17 hcz127_18 hcz127_19 hcz127_20 hcz127_21 hcz127_22 hcz127_23 hcz127_24 hfz127_0 hfz127_1 hfz127_2 hfz127_3 hfz127_4 hfz127_5 hfz127_6 hfz127_7 hfz127_8 hfz127_9 hfz127_10 hfz127_11 hfz127_12 hfz127_13 hfz127_14 hfz127_15 hfz127_16 hfz127_17 hfz127_18 hfz127_19 hfz127_20 hfz127_21 hfz127_22 hfz127_23 hfz127_24 => ?_) | ((with_reducible refine gate_dst (N := 89) rfl ?_); (try (refine gate_guard (by rfl) ?_; dsimp only)); refine blk_load_event ?lg (N := 89) ?ld (t := 42) (x := ?lxxz122) ?lo (g := gb642) ?lx (cs := _) BK642.out ?lD ?lt ?_; (case lg => rfl); (case ld => rfl); (case lo => rfl); (case lx => first | rfl | (go_simp; done) | (go_simp; rfl)); (case lD => exact ⟨_, Try.underlying42, rfl⟩); (case lt => kernel_rfl)) | (go_at_call 27; (with_reducible refine (althingref03_Has.calls t635 t636 t637 t638 t639 t640 t641 ((rd_T44 l0 x39_2).f0.f0) ((rd_T44 l0 x39_2).f0.f1) true _ A104.out).mono ?_); rintro e w128 ⟨rfl, hb⟩; have n0_ := Aside0.mk (Kd.V_below (kv_ HO_625006.out) hb); have n1_ := Aside0.mk (Kd.V_below (kv_ HO_625007.out) hb); have n2_ := Aside0.mk (Kd.V_below (kv_ HO_644013.out) hb); have n3_ := Aside0.mk (Kd.V_below (kv_ HO_644014.out) hb); have n4_ := Aside0.mk (blk_below (kb_ BK623.out) hb); have n5_ := Aside0.mk (blk_below (kb_ BK624.out) hb); have n6_ := Aside0.mk (blk_below (kb_ BK642.out) hb); have n7_ := Aside0.mk (blk_below (kb_ BK643.out) hb); have n8_ := Aside0.mk (blk_below (kb_ BK646.out) hb); have n9_ := Aside0.mk (below_step (by repeat (first | (with_reducible first | exact HB.out | apply below_alloc | apply pw_below_drewN | apply below_drew1 | refine below_set ?_ GE623.out | refine below_set ?_ GE624.out | refine below_set ?_ GE642.out | refine below_set ?_ GE643.out | refine below_set ?_ GE646.out) | exact HB.out)) hb); clear HO_625006; clear HO_625007; clear HO_644013; clear HO_644014; clear BK623; clear BK624; clear BK642; clear BK643; clear BK646; clear HB; have HO_625006 := n0_; have HO_625007 := n1_; have HO_644013 := n2_; have HO_644014 := n3_; have BK623 := n4_; have BK624 := n5_; have BK642 := n6_; have BK643 := n7_; have BK646 := n8_; have HB := n9_; clear n0_ n1_ n2_ n3_ n4_ n5_ n6_ n7_ n8_ n9_; (try clear hb); (try clear hb2); (try clear hk); (try clear hi); refine blk25_ BK646.out fun hcz129_0 hcz129_1 hcz129_2 hcz129_3 hcz129_4 hcz129_5 hcz129_6 hcz129_7 hcz129_8 hcz129_9 hcz129_10 hcz129_11 hcz129_12 hcz129_13 hcz129_14 hcz129_15 hcz129_16 hcz129_17 hcz129_18 hcz129_19 hcz129_20 hcz129_21 hcz129_22 hcz129_23 hcz129_24 hfz129_0 hfz129_1 hfz129_2 hfz129_3 hfz129_4 hfz129_5 hfz129_6 hfz129_7 hfz129_8 hfz129_9 hfz129_10 hfz129_11 hfz129_12 hfz129_13 hfz129_14 hfz129_15 hfz129_16 hfz129_17 hfz129_18 hfz129_19 hfz129_20 hfz129_21 hfz129_22 hfz129_23 hfz129_24 => ?_))
                           go_roundg kj82
                           case measure => have := HJ3.out; have := HK2.out; have := HJ44.out; have := HJ82.out; omega
                           case rel => exact ⟨(wrap64 (x39_2 + 1)), (by first | rfl | (simp; done) | (simp [*]; done)), H', ⟨by have := HJ3.out; have := HK2.out; have := HJ44.out; have := HJ82.out; omega⟩, ⟨by (with_reducible repeat (first | apply Kd.V_alloc | apply Kd.V_drewN | apply Kd.V_drew)); exact Kd.V_mono HO_625006.out (fun _ hk => ⟨hk.1, ⟨hk.2.1, ⟨hk.2.2.1, ⟨hk.2.2.2.1, hk.2.2.2.2.1⟩⟩⟩⟩)⟩, ⟨by (with_reducible repeat (first | apply Kd.V_alloc | apply Kd.V_drewN | apply Kd.V_drew)); exact Kd.V_mono HO_625007.out (fun _ hk => ⟨hk.1, ⟨hk.2.1, ⟨hk.2.2.1, ⟨hk.2.2.2.1, hk.2.2.2.2.1⟩⟩⟩⟩)⟩, ⟨by (with_reducible repeat (first | apply Kd.V_alloc | apply Kd.V_drewN | apply Kd.V_drew)); exact Kd.V_mono HO_644013.out (fun _ hk => ⟨hk.1, ⟨hk.2.1, ⟨hk.2.2.1, ⟨hk.2.2.2.1, hk.2.2.2.2.1⟩⟩⟩⟩)⟩, ⟨by (with_reducible repeat (first | apply Kd.V_alloc | apply Kd.V_drewN | apply Kd.V_drew)); exact Kd.V_mono HO_644014.out (fun _ hk => ⟨hk.1, ⟨hk.2.1, ⟨hk.2.2.1, ⟨hk.2.2.2.1, hk.2.2.2.2.1⟩⟩⟩⟩)⟩, ⟨by (with_reducible repeat (first | refine blk_drewN ?_ _ | refine blk_drew ?_ | refine blk_alloc ?_ _)); exact BK623.out⟩, ⟨by (with_reducible repeat (first | refine blk_drewN ?_ _ | refine blk_drew ?_ | refine blk_alloc ?_ _)); exact BK624.out⟩, ⟨by (with_reducible repeat (first | refine blk_drewN ?_ _ | refine blk_drew ?_ | refine blk_alloc ?_ _)); exact BK642.out⟩, ⟨by (with_reducible repeat (first | refine blk_drewN ?_ _ | refine blk_drew ?_ | refine blk_alloc ?_ _)); exact BK643.out⟩, ⟨by repeat (first | (with_reducible first | exact HB.out | apply below_alloc | apply pw_below_drewN | apply below_drew1 | refine below_set ?_ GE623.out | refine below_set ?_ GE624.out | refine below_set ?_ GE642.out | refine below_set ?_ GE643.out | refine below_set ?_ GE646.out) | exact HB.out)⟩⟩
                       · replace c105 := Bool.eq_false_iff.mpr c105
                         subst c105
                         rw [if_neg (show ¬ (false = true) by decide)] at H
                         exact absurd H (by simp)
                     · replace c103 := Bool.eq_false_iff.mpr c103
                       subst c103
                       rw [if_neg (show ¬ (false = true) by decide)] at H
                       exact absurd H (by simp)
                   · replace c101 := Bool.eq_false_iff.mpr c101
                     subst c101
                     rw [if_neg (show ¬ (false = true) by decide)] at H
                     by_cases c130 : ((rd_T44 l0 x39_2).f5) < 1099511627776
                     · rw [if_pos c130] at H
                       have c130b0 : decide (((rd_T44 l0 x39_2).f5) < 1099511627776) = true := decide_eq_true c130
                       clear c130
                       by_cases c131 : t634 ≤ ((rd_T44 l0 x39_2).f5)
                       · rw [if_pos c131] at H
                         exact absurd H (by simp)
                       · rw [if_neg c131] at H
                         have c131b0 : decide (t634 ≤ ((rd_T44 l0 x39_2).f5)) = false := decide_eq_false c131
                         clear c131
                         have H' := Aside0.mk H
                         clear H
                         have hnb132 := NB646_623.out
                         have hnc132 := NB623_646.out
                         have hnb133 := NB646_624.out
                         have hnc133 := NB624_646.out
                         have hnb134 := NB646_642.out
                         have hnc134 := NB642_646.out
                         have hnb135 := NB646_643.out
                         have hnc135 := NB643_646.out
                         refine blk25_ BK646.out fun hcz136_0 hcz136_1 hcz136_2 hcz136_3 hcz136_4 hcz136_5 hcz136_6 hcz136_7 hcz136_8 hcz136_9 hcz136_10 hcz136_11 hcz136_12 hcz136_13 hcz136_14 hcz136_15 hcz136_16 hcz136_17 hcz136_18 hcz136_19 hcz136_20 hcz136_21 hcz136_22 hcz136_23 hcz136_24 hfz136_0 hfz136_1 hfz136_2 hfz136_3 hfz136_4 hfz136_5 hfz136_6 hfz136_7 hfz136_8 hfz136_9 hfz136_10 hfz136_11 hfz136_12 hfz136_13 hfz136_14 hfz136_15 hfz136_16 hfz136_17 hfz136_18 hfz136_19 hfz136_20 hfz136_21 hfz136_22 hfz136_23 hfz136_24 => ?_
                         go_wp2
                         go_roundg kj82
                         case measure => have := HJ3.out; have := HK2.out; have := HJ44.out; have := HJ82.out; omega
                         case rel => exact ⟨(wrap64 (x39_2 + 1)), (by first | rfl | (simp; done) | (simp [*]; done)), H', ⟨by have := HJ3.out; have := HK2.out; have := HJ44.out; have := HJ82.out; omega⟩, ⟨by (with_reducible repeat (first | apply Kd.V_alloc | apply Kd.V_drewN | apply Kd.V_drew)); exact Kd.V_mono HO_625006.out (fun _ hk => ⟨hk.1, ⟨hk.2.1, ⟨hk.2.2.1, ⟨hk.2.2.2.1, hk.2.2.2.2.1⟩⟩⟩⟩)⟩, ⟨by (with_reducible repeat (first | apply Kd.V_alloc | apply Kd.V_drewN | apply Kd.V_drew)); exact Kd.V_mono HO_625007.out (fun _ hk => ⟨hk.1, ⟨hk.2.1, ⟨hk.2.2.1, ⟨hk.2.2.2.1, hk.2.2.2.2.1⟩⟩⟩⟩)⟩, ⟨by (with_reducible repeat (first | apply Kd.V_alloc | apply Kd.V_drewN | apply Kd.V_drew)); exact Kd.V_mono HO_644013.out (fun _ hk => ⟨hk.1, ⟨hk.2.1, ⟨hk.2.2.1, ⟨hk.2.2.2.1, hk.2.2.2.2.1⟩⟩⟩⟩)⟩, ⟨by (with_reducible repeat (first | apply Kd.V_alloc | apply Kd.V_drewN | apply Kd.V_drew)); exact Kd.V_mono HO_644014.out (fun _ hk => ⟨hk.1, ⟨hk.2.1, ⟨hk.2.2.1, ⟨hk.2.2.2.1, hk.2.2.2.2.1⟩⟩⟩⟩)⟩, ⟨by (with_reducible repeat (first | refine blk_drewN ?_ _ | refine blk_drew ?_ | refine blk_alloc ?_ _)); exact BK623.out⟩, ⟨by (with_reducible repeat (first | refine blk_drewN ?_ _ | refine blk_drew ?_ | refine blk_alloc ?_ _)); exact BK624.out⟩, ⟨by (with_reducible repeat (first | refine blk_drewN ?_ _ | refine blk_drew ?_ | refine blk_alloc ?_ _)); exact BK642.out⟩, ⟨by (with_reducible repeat (first | refine blk_drewN ?_ _ | refine blk_drew ?_ | refine blk_alloc ?_ _)); exact BK643.out⟩, ⟨by repeat (first | (with_reducible first | exact HB.out | apply below_alloc | apply pw_below_drewN | apply below_drew1 | refine below_set ?_ GE623.out | refine below_set ?_ GE624.out | refine below_set ?_ GE642.out | refine below_set ?_ GE643.out | refine below_set ?_ GE646.out) | exact HB.out)⟩⟩
                     · rw [if_neg c130] at H
                       have c130b0 : decide (((rd_T44 l0 x39_2).f5) < 1099511627776) = false := decide_eq_false c130
                       clear c130
                       have H' := Aside0.mk H
                       clear H
                       have hnb137 := NB646_623.out
                       have hnc137 := NB623_646.out
                       have hnb138 := NB646_624.out
                       have hnc138 := NB624_646.out
                       have hnb139 := NB646_642.out
                       have hnc139 := NB642_646.out
                       have hnb140 := NB646_643.out
                       have hnc140 := NB643_646.out
                       refine blk25_ BK646.out fun hcz141_0 hcz141_1 hcz141_2 hcz141_3 hcz141_4 hcz141_5 hcz141_6 hcz141_7 hcz141_8 hcz141_9 hcz141_10 hcz141_11 hcz141_12 hcz141_13 hcz141_14 hcz141_15 hcz141_16 hcz141_17 hcz141_18 hcz141_19 hcz141_20 hcz141_21 hcz141_22 hcz141_23 hcz141_24 hfz141_0 hfz141_1 hfz141_2 hfz141_3 hfz141_4 hfz141_5 hfz141_6 hfz141_7 hfz141_8 hfz141_9 hfz141_10 hfz141_11 hfz141_12 hfz141_13 hfz141_14 hfz141_15 hfz141_16 hfz141_17 hfz141_18 hfz141_19 hfz141_20 hfz141_21 hfz141_22 hfz141_23 hfz141_24 => ?_
                       go_wp2
                       go_roundg kj82
                       case measure => have := HJ3.out; have := HK2.out; have := HJ44.out; have := HJ82.out; omega
                       case rel => exact ⟨(wrap64 (x39_2 + 1)), (by first | rfl | (simp; done) | (simp [*]; done)), H', ⟨by have := HJ3.out; have := HK2.out; have := HJ44.out; have := HJ82.out; omega⟩, ⟨by (with_reducible repeat (first | apply Kd.V_alloc | apply Kd.V_drewN | apply Kd.V_drew)); exact Kd.V_mono HO_625006.out (fun _ hk => ⟨hk.1, ⟨hk.2.1, ⟨hk.2.2.1, ⟨hk.2.2.2.1, hk.2.2.2.2.1⟩⟩⟩⟩)⟩, ⟨by (with_reducible repeat (first | apply Kd.V_alloc | apply Kd.V_drewN | apply Kd.V_drew)); exact Kd.V_mono HO_625007.out (fun _ hk => ⟨hk.1, ⟨hk.2.1, ⟨hk.2.2.1, ⟨hk.2.2.2.1, hk.2.2.2.2.1⟩⟩⟩⟩)⟩, ⟨by (with_reducible repeat (first | apply Kd.V_alloc | apply Kd.V_drewN | apply Kd.V_drew)); exact Kd.V_mono HO_644013.out (fun _ hk => ⟨hk.1, ⟨hk.2.1, ⟨hk.2.2.1, ⟨hk.2.2.2.1, hk.2.2.2.2.1⟩⟩⟩⟩)⟩, ⟨by (with_reducible repeat (first | apply Kd.V_alloc | apply Kd.V_drewN | apply Kd.V_drew)); exact Kd.V_mono HO_644014.out (fun _ hk => ⟨hk.1, ⟨hk.2.1, ⟨hk.2.2.1, ⟨hk.2.2.2.1, hk.2.2.2.2.1⟩⟩⟩⟩)⟩, ⟨by (with_reducible repeat (first | refine blk_drewN ?_ _ | refine blk_drew ?_ | refine blk_alloc ?_ _)); exact BK623.out⟩, ⟨by (with_reducible repeat (first | refine blk_drewN ?_ _ | refine blk_drew ?_ | refine blk_alloc ?_ _)); exact BK624.out⟩, ⟨by (with_reducible repeat (first | refine blk_drewN ?_ _ | refine blk_drew ?_ | refine blk_alloc ?_ _)); exact BK642.out⟩, ⟨by (with_reducible repeat (first | refine blk_drewN ?_ _ | refine blk_drew ?_ | refine blk_alloc ?_ _)); exact BK643.out⟩, ⟨by repeat (first | (with_reducible first | exact HB.out | apply below_alloc | apply pw_below_drewN | apply below_drew1 | refine below_set ?_ GE623.out | refine below_set ?_ GE624.out | refine below_set ?_ GE642.out | refine below_set ?_ GE643.out | refine below_set ?_ GE646.out) | exact HB.out)⟩⟩
           · rw [if_neg c44] at H
             exact absurd H (by simp)
         · rw [if_neg c43] at H
           exact absurd H (by simp)
       · rw [if_neg c42] at H
         have c42b0 : decide (x39_2 < (l0.length : Int)) = false := decide_eq_false c42
         clear c42
         obtain ⟨t644, A142, H⟩ := bs_ H
         obtain rfl := Option.some.inj H
         go_wp2_with (first | ((with_reducible refine gate_callee (f := 12) rfl ?_); refine goesL_ (some 108) rfl rfl Try.func12 (by kernel_rfl) rfl #[] rfl (by (try simp only [List.map_toArray, List.map_cons, List.map_nil]); first | done | rfl | (simp only [List.length_drop, List.length_take]; rfl)) ?_; (with_reducible refine (althinglaw11_awake.calls k2  t644 _ A142.out).mono ?_); rintro e w143 ⟨rfl, hb⟩; refine ⟨_, rfl, ?_⟩; have n0_ := Aside0.mk (Kd.V_below (kv_ HO_625006.out) hb); have n1_ := Aside0.mk (Kd.V_below (kv_ HO_625007.out) hb); have n2_ := Aside0.mk (Kd.V_below (kv_ HO_644013.out) hb); have n3_ := Aside0.mk (Kd.V_below (kv_ HO_644014.out) hb); have n4_ := Aside0.mk (blk_below (kb_ BK623.out) hb); have n5_ := Aside0.mk (blk_below (kb_ BK624.out) hb); have n6_ := Aside0.mk (blk_below (kb_ BK642.out) hb); have n7_ := Aside0.mk (blk_below (kb_ BK643.out) hb); have n8_ := Aside0.mk (below_step (by repeat (first | (with_reducible first | exact HB.out | apply below_alloc | apply pw_below_drewN | apply below_drew1 | refine below_set ?_ GE623.out | refine below_set ?_ GE624.out | refine below_set ?_ GE642.out | refine below_set ?_ GE643.out) | exact HB.out)) hb); clear HO_625006; clear HO_625007; clear HO_644013; clear HO_644014; clear BK623; clear BK624; clear BK642; clear BK643; clear HB; have HO_625006 := n0_; have HO_625007 := n1_; have HO_644013 := n2_; have HO_644014 := n3_; have BK623 := n4_; have BK624 := n5_; have BK642 := n6_; have BK643 := n7_; have HB := n8_; clear n0_ n1_ n2_ n3_ n4_ n5_ n6_ n7_ n8_; (try clear hb); (try clear hb2); (try clear hk); (try clear hi)))
         go_ret
         exact ⟨by first | rfl | (simp [errW_none, errW_some] <;> rfl) | (simp [*, errW_none, errW_some] <;> rfl), by repeat (first | (with_reducible first | exact HB.out | apply below_alloc | apply pw_below_drewN | apply below_drew1 | refine below_set ?_ GE623.out | refine below_set ?_ GE624.out | refine below_set ?_ GE642.out | refine below_set ?_ GE643.out) | exact HB.out)⟩
end Go.Proofs.Ytklbmdakoeoplaa.X
end
section
namespace Go.Proofs.Ytklbmdakoeoplaa.Strs
open Go.RowKit Go.Proofs.YtklbmdakoeoplaaW.PrintWords Go.Proofs.YtklbmdakoeoplaaW.PrintLast Go.Proofs.YtklbmdakoeoplaaW.PrintMore Go.Proofs.Ytklbmdakoeoplaa.X
set_option linter.unusedSimpArgs false
set_option linter.unusedVariables false
section
variable (l : List Cm) (n j : Int) (a b c d e s : Int) (r : List Rd) (w : List Wr) (m : Bool) (P : Prop)
theorem few_j4 (hn : ∃ q, Ev (fun k => althinglaw05_Few.l0 k l n (wrap64 (j + 1))) q ∧ (q = true → P)) (i : Int) : ∃ q, Ev (fun k => althinglaw05_Few.j4 k i l n j false a b c d e s r w m) q ∧ (q = true → P ∧ r.length ≤ 20 ∧ w.length ≤ 20) := by
  by_cases h1 : (r.length : Int) > 20
  · refine ⟨false, Ev.step (f := fun _ => some false) (fun k => ?_) (Ev.const rfl), fun e => by cases e⟩
    simp only [althinglaw05_Few.j4]; rw [if_neg (by simp), if_pos h1]
  · by_cases h2 : (w.length : Int) > 20
    · refine ⟨false, Ev.step (f := fun _ => some false) (fun k => ?_) (Ev.const rfl), fun e => by cases e⟩
      simp only [althinglaw05_Few.j4]; rw [if_neg (by simp), if_neg h1, if_pos h2]
    · obtain ⟨q, hq, hp⟩ := hn
      refine ⟨q, Ev.step (fun k => ?_) hq, fun e => ⟨hp e, by omega, by omega⟩⟩
      simp only [althinglaw05_Few.j4]; rw [if_neg (by simp), if_neg h1, if_neg h2]
theorem few_l2 (hn : ∃ q, Ev (fun k => althinglaw05_Few.l0 k l n (wrap64 (j + 1))) q ∧ (q = true → P)) : ∀ dd i, i + dd = min w.length 21 → ∃ q, Ev (fun k => althinglaw05_Few.l2 k (i : Int) l n j a b c d e s r w m) q ∧ (q = true → P ∧ r.length ≤ 20 ∧ w.length ≤ 20 ∧ ∀ x ∈ w.drop i, x.f0.size ≤ 100 ∧ x.f1.size ≤ 100)
  | 0, i, hi => by
    obtain ⟨q, hq, hp⟩ := few_j4 l n j a b c d e s r w m P hn (i : Int)
    refine ⟨q, Ev.step (fun k => ?_) hq, fun e => ⟨(hp e).1, (hp e).2.1, (hp e).2.2, fun x hx => ?_⟩⟩
    · simp only [althinglaw05_Few.l2]
      by_cases h1 : (i : Int) < (w.length : Int)
      · rw [if_pos h1, decide_eq_false (by omega)]
      · rw [if_neg h1]
    · have := (hp e).2.2
      rw [List.drop_eq_nil_of_le (by omega)] at hx
      cases hx
  | dd + 1, i, hi => by
    have hil : i < w.length := by omega
    have hstep : ∀ k, althinglaw05_Few.l2 (k + 1) (i : Int) l n j a b c d e s r w m = althinglaw05_Few.j4 k (i : Int) l n j true a b c d e s r w m := fun k => by
      simp only [althinglaw05_Few.l2]; rw [if_pos (by omega), decide_eq_true (by omega)]
    have hj : ∃ q, Ev (fun k => althinglaw05_Few.j4 k (i : Int) l n j true a b c d e s r w m) q ∧ (q = true → P ∧ r.length ≤ 20 ∧ w.length ≤ 20 ∧ ∀ x ∈ w.drop i, x.f0.size ≤ 100 ∧ x.f1.size ≤ 100) := by
      by_cases h1 : (w[i].f0.size : Int) > 100
      · refine ⟨false, Ev.step (f := fun _ => some false) (fun k => ?_) (Ev.const rfl), fun e => by cases e⟩
        simp only [althinglaw05_Few.j4]; rw [if_pos trivial, if_pos (by omega), if_pos (by omega), rdW w i hil, if_pos h1]
      · by_cases h2 : (w[i].f1.size : Int) > 100
        · refine ⟨false, Ev.step (f := fun _ => some false) (fun k => ?_) (Ev.const rfl), fun e => by cases e⟩
          simp only [althinglaw05_Few.j4]; rw [if_pos trivial, if_pos (by omega), if_pos (by omega), rdW w i hil, if_neg h1, if_pos h2]
        · obtain ⟨q, hq, hp⟩ := few_l2 hn dd (i + 1) (by omega)
          refine ⟨q, Ev.step (fun k => ?_) hq, fun e => ⟨(hp e).1, (hp e).2.1, (hp e).2.2.1, fun x hx => ?_⟩⟩
          · simp only [althinglaw05_Few.j4]; rw [if_pos trivial, if_pos (by omega), if_pos (by omega), rdW w i hil, if_neg h1, if_neg h2, w1 i (by omega)]
          · rw [List.drop_eq_getElem_cons hil] at hx
            rcases List.mem_cons.1 hx with rfl | hx
            · exact ⟨by omega, by omega⟩
            · exact (hp e).2.2.2 x hx
    obtain ⟨q, hq, hp⟩ := hj
    exact ⟨q, Ev.step hstep hq, hp⟩
theorem few_l1 (hn : ∃ q, Ev (fun k => althinglaw05_Few.l0 k l n (wrap64 (j + 1))) q ∧ (q = true → P)) : ∀ dd i, i + dd = min r.length 21 → ∃ q, Ev (fun k => althinglaw05_Few.l1 k (i : Int) l n j a b c d e s r w m) q ∧ (q = true → P ∧ r.length ≤ 20 ∧ w.length ≤ 20 ∧ (∀ x ∈ r.drop i, x.f0.size ≤ 100) ∧ ∀ x ∈ w, x.f0.size ≤ 100 ∧ x.f1.size ≤ 100)
  | 0, i, hi => by
    obtain ⟨q, hq, hp⟩ := few_l2 l n j a b c d e s r w m P hn (min w.length 21) 0 (by omega)
    refine ⟨q, Ev.step (f := fun k => althinglaw05_Few.j2 k (i : Int) l n j false a b c d e s r w m) (fun k => ?_) (Ev.step (fun k => ?_) hq), fun e => ⟨(hp e).1, (hp e).2.1, (hp e).2.2.1, fun x hx => ?_, by simpa using (hp e).2.2.2⟩⟩
    · simp only [althinglaw05_Few.l1]
      by_cases h1 : (i : Int) < (r.length : Int)
      · rw [if_pos h1, decide_eq_false (by omega)]
      · rw [if_neg h1]
    · simp only [althinglaw05_Few.j2]; rw [if_neg (by simp)]; rfl
    · have := (hp e).2.1
      rw [List.drop_eq_nil_of_le (by omega)] at hx
      cases hx
  | dd + 1, i, hi => by
    have hil : i < r.length := by omega
    have hstep : ∀ k, althinglaw05_Few.l1 (k + 1) (i : Int) l n j a b c d e s r w m = althinglaw05_Few.j2 k (i : Int) l n j true a b c d e s r w m := fun k => by
      simp only [althinglaw05_Few.l1]; rw [if_pos (by omega), decide_eq_true (by omega)]
    have hj : ∃ q, Ev (fun k => althinglaw05_Few.j2 k (i : Int) l n j true a b c d e s r w m) q ∧ (q = true → P ∧ r.length ≤ 20 ∧ w.length ≤ 20 ∧ (∀ x ∈ r.drop i, x.f0.size ≤ 100) ∧ ∀ x ∈ w, x.f0.size ≤ 100 ∧ x.f1.size ≤ 100) := by
      by_cases h1 : (r[i].f0.size : Int) > 100
      · refine ⟨false, Ev.step (f := fun _ => some false) (fun k => ?_) (Ev.const rfl), fun e => by cases e⟩
        simp only [althinglaw05_Few.j2]; rw [if_pos trivial, if_pos (by omega), if_pos (by omega), rdR r i hil, if_pos h1]
      · obtain ⟨q, hq, hp⟩ := few_l1 hn dd (i + 1) (by omega)
        refine ⟨q, Ev.step (fun k => ?_) hq, fun e => ⟨(hp e).1, (hp e).2.1, (hp e).2.2.1, fun x hx => ?_, (hp e).2.2.2.2⟩⟩
        · simp only [althinglaw05_Few.j2]; rw [if_pos trivial, if_pos (by omega), if_pos (by omega), rdR r i hil, if_neg h1, w1 i (by omega)]
        · rw [List.drop_eq_getElem_cons hil] at hx
          rcases List.mem_cons.1 hx with rfl | hx
          · omega
          · exact (hp e).2.2.2.1 x hx
    obtain ⟨q, hq, hp⟩ := hj
    exact ⟨q, Ev.step hstep hq, hp⟩
end
theorem few_l0 (l : List Cm) (hl : l.length ≤ 1000) : ∀ dd i, i + dd = l.length → ∃ q, Ev (fun k => althinglaw05_Few.l0 k l (l.length : Int) (i : Int)) q ∧ (q = true → ∀ c ∈ l.drop i, small c.f4 c.f5)
  | 0, i, hi => by
    refine ⟨true, Ev.step (f := fun _ => some true) (fun k => ?_) (Ev.const rfl), fun _ c hc => ?_⟩
    · simp only [althinglaw05_Few.l0]; rw [if_neg (by omega)]
    · rw [List.drop_eq_nil_of_le (by omega)] at hc; cases hc
  | dd + 1, i, hi => by
    have hil : i < l.length := by omega
    obtain ⟨q0, hq0, hp0⟩ := few_l0 l hl dd (i + 1) (by omega)
    have hn : ∃ q, Ev (fun k => althinglaw05_Few.l0 k l (l.length : Int) (wrap64 ((i : Int) + 1))) q ∧ (q = true → ∀ c ∈ l.drop (i + 1), small c.f4 c.f5) := ⟨q0, by rw [w1 i (by omega)]; exact hq0, hp0⟩
    obtain ⟨q, hq, hp⟩ := few_l1 l (l.length : Int) (i : Int) l[i].f0 l[i].f1.f0 l[i].f1.f1 l[i].f2.f0 l[i].f2.f1 l[i].f3 l[i].f4 l[i].f5 l[i].f6 _ hn (min l[i].f4.length 21) 0 (by omega)
    refine ⟨q, Ev.step (fun k => ?_) hq, fun e c hc => ?_⟩
    · simp only [althinglaw05_Few.l0]; rw [if_pos (by omega), if_pos (by omega), if_pos (by omega), rdC l i hil]; rfl
    · rw [List.drop_eq_getElem_cons hil] at hc
      rcases List.mem_cons.1 hc with rfl | hc
      · have := hp e
        exact ⟨this.2.1, this.2.2.1, by simpa using this.2.2.2.1, this.2.2.2.2⟩
      · exact (hp e).1 c hc
theorem few_ex (l : List Cm) (hl : l.length ≤ 1000) : ∃ q, Ev (fun k => althinglaw05_Few.f k l) q ∧ (q = true → ∀ c ∈ l, small c.f4 c.f5) := by
  obtain ⟨q, hq, hp⟩ := few_l0 l hl l.length 0 (by omega)
  exact ⟨q, hq, by simpa using hp⟩
end Go.Proofs.Ytklbmdakoeoplaa.Strs
end
section
namespace Go.Proofs.Ytklbmdakoeoplaa.Strs
open Go.RowKit Go.Proofs.YtklbmdakoeoplaaW.PrintWords Go.Proofs.YtklbmdakoeoplaaW.PrintLast Go.Proofs.YtklbmdakoeoplaaW.PrintMore Go.Proofs.Ytklbmdakoeoplaa.X
set_option linter.unusedSimpArgs false
set_option linter.unusedVariables false
def few20 (l : List Rc) : Prop := l.length ≤ 20 ∧ ∀ x ∈ l, small x.f4.f4 x.f4.f5
theorem few20_R {l : List Rc} (h : few20 l) : fewR l := ⟨by have := h.1; omega, h.2⟩
theorem few11_l0 (l : List Rc) : ∀ dd i, i + dd = min l.length 21 → (∀ x ∈ l.take i, small x.f4.f4 x.f4.f5) → ∃ q, Ev (fun k => althinglaw11_Few.l0 k l (i : Int)) q ∧ (q = true → few20 l)
  | 0, i, hi, ht => by
    refine ⟨decide ((l.length : Int) ≤ 20), Ev.step (f := fun k => althinglaw11_Few.j1 k l (i : Int) false) (fun k => ?_) (Ev.step (f := fun _ => some (decide ((l.length : Int) ≤ 20))) (fun k => ?_) (Ev.const rfl)), fun e => ?_⟩
    · simp only [althinglaw11_Few.l0]
      by_cases h1 : (i : Int) < (l.length : Int)
      · rw [if_pos h1, decide_eq_false (by omega)]
      · rw [if_neg h1]
    · simp only [althinglaw11_Few.j1]; rw [if_neg (by simp)]
    · rw [decide_eq_true_eq] at e
      have hl : i = l.length := by omega
      rw [hl, List.take_length] at ht
      exact ⟨by omega, ht⟩
  | dd + 1, i, hi, ht => by
    have hil : i < l.length := by omega
    obtain ⟨q, hq, hp⟩ := few_ex [l[i].f4] (by simp)
    have hstep : ∀ k, althinglaw11_Few.l0 (k + 1) l (i : Int) = althinglaw11_Few.j1 k l (i : Int) true := fun k => by
      simp only [althinglaw11_Few.l0]; rw [if_pos (by omega), decide_eq_true (by omega)]
    cases q with
    | false =>
      refine ⟨false, Ev.step hstep (Ev.step (f := fun k => (althinglaw05_Few.f k [l[i].f4]).bind fun t => if t = true then althinglaw11_Few.l0 k l ((i + 1 : Nat) : Int) else some false) (fun k => ?_) (Ev.bindF hq (Ev.const rfl))), fun e => by cases e⟩
      simp only [althinglaw11_Few.j1]; rw [if_pos trivial, if_pos (by omega), if_pos (by omega), rdRc l i hil, w1 i (by omega)]
    | true =>
      have hs : small l[i].f4.f4 l[i].f4.f5 := hp rfl _ List.mem_cons_self
      obtain ⟨q2, hq2, hp2⟩ := few11_l0 l dd (i + 1) (by omega) (fun x hx => by
        rw [List.take_succ_eq_append_getElem hil, List.mem_append, List.mem_singleton] at hx
        rcases hx with hx | rfl
        · exact ht x hx
        · exact hs)
      refine ⟨q2, Ev.step hstep (Ev.step (f := fun k => (althinglaw05_Few.f k [l[i].f4]).bind fun t => if t = true then althinglaw11_Few.l0 k l ((i + 1 : Nat) : Int) else some false) (fun k => ?_) (Ev.bindT hq hq2)), hp2⟩
      simp only [althinglaw11_Few.j1]; rw [if_pos trivial, if_pos (by omega), if_pos (by omega), rdRc l i hil, w1 i (by omega)]
theorem few11_ex (l : List Rc) : ∃ q, Ev (fun k => althinglaw11_Few.f k l) q ∧ (q = true → few20 l) := few11_l0 l (min l.length 21) 0 (by omega) (by simp)
theorem cloned_rec (a b c d e s : Int) (r : List Rd) (w : List Wr) (m : Bool) (h : small r w) : althinglaw11_cloned.f a b c d e s r w m = some (a, b, c, d, e, s, r, w, m) := by
  have hr := h.1
  have hw := h.2.1
  unfold althinglaw11_cloned.f
  simp only [Option.bind_some, List.nil_append, List.length_nil]
  rw [if_pos (by omega), if_pos (by omega)]
theorem own_l0 (l : List Rc) (h : fewR l) : ∀ dd i, i + dd = l.length → Ev (fun k => althinglaw11_own.l0 k (l.take i) l (l.length : Int) (i : Int)) l
  | 0, i, hi => by
    refine Ev.step (f := fun _ => some (l.take i)) (fun k => ?_) (Ev.const ?_)
    · simp only [althinglaw11_own.l0]; rw [if_neg (by omega)]
    · rw [show i = l.length by omega, List.take_length]
  | dd + 1, i, hi => by
    have hil : i < l.length := by omega
    have hl := h.1
    have hs := h.2 _ (List.getElem_mem hil)
    refine Ev.step (fun k => ?_) (own_l0 l h dd (i + 1) (by omega))
    simp only [althinglaw11_own.l0]
    rw [if_pos (by omega), if_pos (by omega), if_pos (by omega), rdRc l i hil, cloned_rec _ _ _ _ _ _ _ _ _ hs, Option.bind_some, if_pos (by rw [List.length_take]; omega), w1 i (by omega), List.take_succ_eq_append_getElem hil]
theorem own_is (l : List Rc) (h : fewR l) : Ev (fun k => althinglaw11_own.f k l) l := own_l0 l h l.length 0 (by omega)
def slotStep (rep : Int) (n : Int) (x : Rc) : Int := if x.f0.f0 = rep then mx n (mn x.f0.f1 1048576) else n
def slotF (l : List Rc) (rep : Int) : Int := l.foldl (slotStep rep) 0
theorem slot_l0 (l : List Rc) (rep : Int) (hl : l.length ≤ 1000) : ∀ dd i (n : Int), i + dd = l.length → Ev (fun k => index_Slot.l0 k rep n l (l.length : Int) (i : Int)) (wrap64 ((l.drop i).foldl (slotStep rep) n + 1))
  | 0, i, n, hi => by
    refine Ev.step (f := fun _ => some (wrap64 (n + 1))) (fun k => ?_) (Ev.const ?_)
    · simp only [index_Slot.l0]; rw [if_neg (by omega)]
    · rw [List.drop_eq_nil_of_le (by omega)]; rfl
  | dd + 1, i, n, hi => by
    have hil : i < l.length := by omega
    rw [List.drop_eq_getElem_cons hil, List.foldl_cons]
    refine Ev.step (fun k => ?_) (slot_l0 l rep hl dd (i + 1) (slotStep rep n l[i]) (by omega))
    simp only [index_Slot.l0]
    rw [if_pos (by omega), if_pos (by omega), if_pos (by omega), rdRc l i hil, w1 i (by omega)]
    unfold slotStep
    by_cases h1 : l[i].f0.f0 = rep
    · rw [if_pos h1, if_pos h1]
    · rw [if_neg h1, if_neg h1]
theorem slot_is (l : List Rc) (rep : Int) (hl : l.length ≤ 1000) : Ev (fun k => index_Slot.f k l rep) (wrap64 (slotF l rep + 1)) := slot_l0 l rep hl l.length 0 0 (by omega)
abbrev D7 := Int × Int × Int × Int × Int × Int × Int
def withD (d : D7) (i s : Int) : D7 := (if i = 0 then max d.1 s else d.1, if i = 1 then max d.2.1 s else d.2.1, if i = 2 then max d.2.2.1 s else d.2.2.1, if i = 3 then max d.2.2.2.1 s else d.2.2.2.1, if i = 4 then max d.2.2.2.2.1 s else d.2.2.2.2.1, if i = 5 then max d.2.2.2.2.2.1 s else d.2.2.2.2.2.1, if i = 6 then max d.2.2.2.2.2.2 s else d.2.2.2.2.2.2)
def attrStep (s : Int × D7) (x : Rc) : Int × D7 := (mx s.1 (wrap64 (mn x.f5 1099511627775 + 1)), withD s.2 x.f0.f0 x.f0.f1)
theorem attrs_l0 (l : List Rc) (hl : l.length ≤ 1000) : ∀ dd i (s : Int × D7), i + dd = l.length → Ev (fun k => index_Attrs.l0 k s.1 l (l.length : Int) (i : Int) s.2.1 s.2.2.1 s.2.2.2.1 s.2.2.2.2.1 s.2.2.2.2.2.1 s.2.2.2.2.2.2.1 s.2.2.2.2.2.2.2) ((l.drop i).foldl attrStep s)
  | 0, i, s, hi => by
    refine Ev.step (f := fun _ => some s) (fun k => ?_) (Ev.const ?_)
    · simp only [index_Attrs.l0]; rw [if_neg (by omega)]
    · rw [List.drop_eq_nil_of_le (by omega)]; rfl
  | dd + 1, i, s, hi => by
    have hil : i < l.length := by omega
    rw [List.drop_eq_getElem_cons hil, List.foldl_cons]
    refine Ev.step (fun k => ?_) (attrs_l0 l hl dd (i + 1) (attrStep s l[i]) (by omega))
    simp only [index_Attrs.l0]
    rw [if_pos (by omega), if_pos (by omega), if_pos (by omega), rdRc l i hil, w1 i (by omega)]
    rfl
def attrsB (l : List Rc) (i0 i1 d0 d1 d2 : Int) (r : List Rd) (w : List Wr) (seq : Int) (d : D7) : Int × D7 := (againstB l i0 i1 d0 d1 d2 r w).foldl attrStep (seq, d)
theorem against_f (l : List Rc) (h : fewR l) (i0 i1 d0 d1 d2 d3 d4 d5 : Int) (r : List Rd) (w : List Wr) (m : Bool) (hs : small r w) : index_Against.f l i0 i1 d0 d1 d2 d3 d4 d5 r w m = some (againstB l i0 i1 d0 d1 d2 r w) := by
  unfold index_Against.f
  rw [(fewRB_iff l).2 h, (smallB_iff r w).2 hs]; rfl
theorem against_sub (l : List Rc) (i0 i1 d0 d1 d2 : Int) (r : List Rd) (w : List Wr) : (againstB l i0 i1 d0 d1 d2 r w).Sublist l := List.filter_sublist.trans (knownB_sub l)
theorem attrs_is (l : List Rc) (h : fewR l) (i0 i1 d0 d1 d2 d3 d4 d5 : Int) (r : List Rd) (w : List Wr) (m : Bool) (hs : small r w) (seq : Int) (d : D7) : Ev (fun k => index_Attrs.f k l i0 i1 d0 d1 d2 d3 d4 d5 r w m seq d.1 d.2.1 d.2.2.1 d.2.2.2.1 d.2.2.2.2.1 d.2.2.2.2.2.1 d.2.2.2.2.2.2) (attrsB l i0 i1 d0 d1 d2 r w seq d) := by
  have hl := (against_sub l i0 i1 d0 d1 d2 r w).length_le
  have hh := h.1
  refine Ev.congr (fun k => ?_) (attrs_l0 (againstB l i0 i1 d0 d1 d2 r w) (by omega) (againstB l i0 i1 d0 d1 d2 r w).length 0 (seq, d) (by omega))
  unfold index_Attrs.f
  rw [against_f l h _ _ _ _ _ _ _ _ _ _ _ hs]; rfl
def aW : List Wr := [⟨⟨#[97]⟩, ⟨#[]⟩⟩]
def aR : Rc := ⟨⟨0, 3⟩, 1, ⟨0, 0⟩, ⟨0, 0⟩, ⟨1, ⟨0, 1⟩, ⟨1, 0⟩, 1, [], aW, false⟩, 5, ⟨0, 0, 0, 0, 0, 0, 0⟩, false⟩
theorem aW_small : small [] aW := ⟨by decide, by decide, by simp, by unfold aW; simp; decide⟩
theorem aR_few : fewR [aR] := ⟨by decide, fun x hx => by
  rw [List.mem_singleton] at hx
  subst hx; exact aW_small⟩
theorem aR_inter : interB 1 0 1 [] aW 1 0 2 [] aW = true := by
  have h : meetB (keysB [] aW) (keysB [] aW) = true := by
    rw [meetB_iff]
    refine ⟨⟨#[97]⟩, ?_, ?_⟩ <;> exact ((joinB_joined (rk []) (wk aW)).2 _).2 (.inr (by unfold wk aW; simp))
  unfold interB
  rw [h]; decide
theorem aR_against : againstB [aR] 1 1 1 0 2 [] aW = [aR] := by
  have h : outB 1 1 1 0 2 [] aW aR = false := by
    unfold outB
    rw [show interB aR.f4.f0 aR.f4.f1.f0 aR.f4.f1.f1 aR.f4.f4 aR.f4.f5 1 0 2 [] aW = true from aR_inter]
    decide
  unfold againstB
  rw [show knownB [aR] = [aR] from rfl, List.filter_cons, h]; rfl
theorem awake11_is : Ev (fun k => althinglaw11_awake.f k) true := by
  unfold althinglaw11_awake.f althinglaw11_some.f
  simp only [Option.bind_some]
  refine Ev.bind (attrs_is [aR] aR_few 1 1 1 0 2 1 0 1 [] aW false aW_small 1 (0, 0, 0, 0, 0, 0, 0)) ?_
  have e : attrsB [aR] 1 1 1 0 2 [] aW 1 (0, 0, 0, 0, 0, 0, 0) = (6, 3, 0, 0, 0, 0, 0, 0) := by
    unfold attrsB
    rw [aR_against]
    simp [List.foldl, attrStep, withD, aR, mx, mn, wrap64]
    decide
  rw [e]
  refine Ev.congr (fun k => if_pos rfl) (Ev.congr (fun k => if_pos rfl) (Ev.bind (slot_is [aR] 0 (by simp)) (Ev.const ?_)))
  have e2 : wrap64 (slotF [aR] 0 + 1) = 4 := by simp [slotF, slotStep, List.foldl, aR, mx, mn, wrap64]
  rw [e2]; rfl
end Go.Proofs.Ytklbmdakoeoplaa.Strs
end
section
namespace Go.Proofs.Ytklbmdakoeoplaa.Strs
open Go.RowKit Go.Proofs.YtklbmdakoeoplaaW.PrintWords Go.Proofs.YtklbmdakoeoplaaW.PrintLast Go.Proofs.YtklbmdakoeoplaaW.PrintMore Go.Proofs.Ytklbmdakoeoplaa.X
set_option linter.unusedSimpArgs false
set_option linter.unusedVariables false
theorem before_l0 (a b : ByteArray) (hb : b.size ≤ 2000) : ∀ d i k, i + d = b.size → i ≤ a.size → a.data.toList.take i = b.data.toList.take i → d + 1 ≤ k →
    althingref04_Before.l0 k a b (i : Int) = some (decide (a.data.toList.drop i < b.data.toList.drop i))
  | 0, i, k, h1, h2, h3, hk => by
    obtain ⟨k, rfl⟩ : ∃ k', k = k' + 1 := ⟨k - 1, by omega⟩
    unfold althingref04_Before.l0
    have hd : b.data.toList.drop i = [] := List.drop_eq_nil_of_le (by rw [← sz_len]; omega)
    rw [if_neg (by omega), hd]
    simp
  | d + 1, i, k, h1, h2, h3, hk => by
    obtain ⟨k, rfl⟩ : ∃ k', k = k' + 1 := ⟨k - 1, by omega⟩
    have hbl : i < b.data.toList.length := by rw [← sz_len]; omega
    unfold althingref04_Before.l0
    rw [if_pos (by omega), drop_at _ i hbl]
    by_cases hia : i = a.size
    · have hd : a.data.toList.drop i = [] := List.drop_eq_nil_of_le (by rw [← sz_len]; omega)
      rw [if_pos (by omega), hd]
      simp
    · have hal : i < a.data.toList.length := by rw [← sz_len]; omega
      rw [if_neg (by omega), if_pos (by omega), if_pos (by omega), bt_el a i hal, bt_el b i hbl, drop_at _ i hal]
      by_cases he : a.data.toList[i] = b.data.toList[i]
      · rw [if_pos (by rw [he]), show wrap64 ((i : Int) + 1) = ((i + 1 : Nat) : Int) by unfold wrap64; omega]
        rw [before_l0 a b hb d (i + 1) k (by omega) (by omega) (by rw [List.take_succ_eq_append_getElem hal, List.take_succ_eq_append_getElem hbl, h3, he]) (by omega)]
        congr 1
        rw [decide_eq_decide, List.cons_lt_cons_iff, he]
        constructor
        · intro h; exact .inr ⟨rfl, h⟩
        · rintro (h | h)
          · exact absurd h (by simp)
          · exact h.2
      · have hne : (a.data.toList[i]).toNat ≠ (b.data.toList[i]).toNat := fun e => he (UInt8.toNat_inj.1 e)
        rw [if_neg (by omega)]
        congr 1
        rw [decide_eq_decide, List.cons_lt_cons_iff]
        constructor
        · intro h; exact .inl (UInt8.lt_iff_toNat_lt.2 (by omega))
        · rintro (h | h)
          · have := UInt8.lt_iff_toNat_lt.1 h; omega
          · exact absurd h.1 he
theorem before_is (a b : ByteArray) (hb : b.size ≤ 2000) (k : Nat) (hk : 2001 ≤ k) : althingref04_Before.f k a b = some (decide (blt a b)) := by
  have := before_l0 a b hb b.size 0 k (by omega) (by omega) (by simp) (by omega)
  simpa [althingref04_Before.f, blt] using this
theorem in_l0 (l : List ByteArray) (x : ByteArray) (hl : l.length ≤ 2000) : ∀ d i k, i + d = l.length → d + 1 ≤ k → althingref04_In.l0 k l x (i : Int) = some (inB (l.drop i) x)
  | 0, i, k, h1, hk => by
    obtain ⟨k, rfl⟩ : ∃ k', k = k' + 1 := ⟨k - 1, by omega⟩
    unfold althingref04_In.l0
    rw [if_neg (by omega), List.drop_eq_nil_of_le (by omega)]
    rfl
  | d + 1, i, k, h1, hk => by
    obtain ⟨k, rfl⟩ : ∃ k', k = k' + 1 := ⟨k - 1, by omega⟩
    have hil : i < l.length := by omega
    have e : rdOf ByteArray.empty l (i : Int) = l[i] := by unfold rdOf; rw [Int.toNat_natCast]; simp [List.getD_eq_getElem?_getD, hil]
    unfold althingref04_In.l0
    rw [if_pos (by omega), if_pos (by omega), e, List.drop_eq_getElem_cons hil]
    by_cases hx : l[i] = x
    · rw [if_pos (by rw [hx]), hx]; simp [inB]
    · have hne : ¬ l[i].data.toList = x.data.toList := fun e => hx (bytes_ext e)
      rw [if_neg (by rw [toList_eq, toList_eq]; exact hne), show wrap64 ((i : Int) + 1) = ((i + 1 : Nat) : Int) by unfold wrap64; omega, in_l0 l x hl d (i + 1) k (by omega) (by omega)]
      unfold inB
      rw [List.any_cons, decide_eq_false hne, Bool.false_or]
theorem in_is (l : List ByteArray) (x : ByteArray) (hl : l.length ≤ 2000) (k : Nat) (hk : 2001 ≤ k) : althingref04_In.f k l x = some (inB l x) := by
  have := in_l0 l x hl l.length 0 k (by omega) (by omega)
  simpa [althingref04_In.f] using this
end Go.Proofs.Ytklbmdakoeoplaa.Strs
end
section
namespace Go.Proofs.Ytklbmdakoeoplaa.Strs
open Go.RowKit Go.Proofs.YtklbmdakoeoplaaW.PrintWords Go.Proofs.YtklbmdakoeoplaaW.PrintLast Go.Proofs.YtklbmdakoeoplaaW.PrintMore Go.Proofs.Ytklbmdakoeoplaa.X
set_option linter.unusedSimpArgs false
set_option linter.unusedVariables false
theorem join_l1 (l : List ByteArray) (hl : l.length ≤ 80) (hz : ∀ x ∈ l, x.size ≤ 2000) (i : Nat) (hi : i < l.length) (K : Nat)
    (h0 : ∀ out k, out.Pairwise blt → (∀ x, x ∈ out ↔ x ∈ l.take (i + 1)) → out.length ≤ i + 1 → K ≤ k → ∃ r, althingref04_Join.l0 k out l ((i + 1 : Nat) : Int) = some r ∧ JoinedTo l r)
    (out : List ByteArray) (hs : out.Pairwise blt) (hm : ∀ x, x ∈ out ↔ x ∈ l.take i) (hn : out.length ≤ i) (hx : l[i] ∉ out) :
    ∀ d q k, q + d = out.length → (∀ y ∈ out.take q, blt y l[i]) → K + 2001 + d + 1 ≤ k → ∃ r, althingref04_Join.l1 k out l (i : Int) (q : Int) = some r ∧ JoinedTo l r := by
  have hmem : ∀ q y, y ∈ out.take q ++ [l[i]] ++ out.drop q ↔ y ∈ l.take (i + 1) := fun q y => by
    rw [ins_mem, hm, List.take_succ_eq_append_getElem hi, List.mem_append, List.mem_singleton]
  have hw : wrap64 ((i : Int) + 1) = ((i + 1 : Nat) : Int) := by unfold wrap64; omega
  intro d
  induction d with
  | zero =>
    intro q k hq hlow hk
    obtain ⟨k, rfl⟩ : ∃ k', k = k' + 1 := ⟨k - 1, by omega⟩
    obtain rfl : q = out.length := by omega
    have hd : out.drop out.length = [] := List.drop_eq_nil_of_le (Nat.le_refl _)
    obtain ⟨r, hr, hj⟩ := h0 (out.take out.length ++ [l[i]] ++ out.drop out.length) k (ins_sorted out l[i] out.length hs hlow (by rw [hd]; simp)) (hmem _) (by rw [ins_len]; omega) (by omega)
    refine ⟨r, ?_, hj⟩
    unfold althingref04_Join.l1
    rw [if_neg (by omega)]
    simp only [Option.bind_some, Int.toNat_natCast, List.nil_append, rd_el l i hi]
    rw [if_pos (by omega), if_pos (by omega), if_pos (by simp), if_pos (by omega), if_pos (by omega), if_pos (by simp; omega), if_pos (by simp; omega), hw]
    exact hr
  | succ d ih =>
    intro q k hq hlow hk
    obtain ⟨k, rfl⟩ : ∃ k', k = k' + 1 := ⟨k - 1, by omega⟩
    have hql : q < out.length := by omega
    unfold althingref04_Join.l1
    rw [if_pos (by omega), if_pos (by omega), if_pos (by omega), if_pos (by omega), rd_el l i hi, rd_el out q hql, before_is _ _ (hz _ (List.getElem_mem hi)) k (by omega)]
    simp only [Option.bind_some]
    by_cases hb : blt out[q] l[i]
    · rw [if_pos (decide_eq_true hb), show wrap64 ((q : Int) + 1) = ((q + 1 : Nat) : Int) by unfold wrap64; omega]
      refine ih (q + 1) k (by omega) ?_ (by omega)
      intro y hy
      rw [List.take_succ_eq_append_getElem hql, List.mem_append, List.mem_singleton] at hy
      rcases hy with hy | rfl
      · exact hlow y hy
      · exact hb
    · rw [if_neg (by rw [decide_eq_true_eq]; exact hb)]
      obtain ⟨r, hr, hj⟩ := h0 (out.take q ++ [l[i]] ++ out.drop q) k (ins_sorted out l[i] q hs hlow (head_below out l[i] q hs hql hx hb)) (hmem _) (by rw [ins_len]; omega) (by omega)
      refine ⟨r, ?_, hj⟩
      simp only [Int.toNat_natCast, List.nil_append]
      rw [if_pos (by omega), if_pos (by simp; omega), if_pos (by simp; omega), if_pos (by simp; omega), hw]
      exact hr
theorem join_l0 (l : List ByteArray) (hl : l.length ≤ 80) (hz : ∀ x ∈ l, x.size ≤ 2000) : ∀ d i, i + d = l.length → ∃ K, ∀ out k, out.Pairwise blt → (∀ x, x ∈ out ↔ x ∈ l.take i) → out.length ≤ i → K ≤ k → ∃ r, althingref04_Join.l0 k out l (i : Int) = some r ∧ JoinedTo l r
  | 0, i, h => ⟨1, fun out k hs hm hn hk => by
      obtain ⟨k, rfl⟩ : ∃ k', k = k' + 1 := ⟨k - 1, by omega⟩
      refine ⟨out, ?_, hs, fun x => by rw [hm, List.take_of_length_le (by omega)]⟩
      unfold althingref04_Join.l0
      rw [if_neg (by omega)]⟩
  | d + 1, i, h => by
    obtain ⟨K, hK⟩ := join_l0 l hl hz d (i + 1) (by omega)
    have hi : i < l.length := by omega
    refine ⟨K + 2001 + i + 3, fun out k hs hm hn hk => ?_⟩
    obtain ⟨k, rfl⟩ : ∃ k', k = k' + 1 := ⟨k - 1, by omega⟩
    unfold althingref04_Join.l0
    rw [if_pos (by omega), if_pos (by omega), rd_el l i hi, in_is out _ (by omega) k (by omega)]
    simp only [Option.bind_some]
    by_cases hx : l[i] ∈ out
    · rw [if_pos ((inB_iff _ _).2 hx), show wrap64 ((i : Int) + 1) = ((i + 1 : Nat) : Int) by unfold wrap64; omega]
      refine hK out k hs (fun x => ?_) (by omega) (by omega)
      rw [List.take_succ_eq_append_getElem hi, List.mem_append, List.mem_singleton, hm]
      constructor
      · exact .inl
      · rintro (h | rfl)
        · exact h
        · exact (hm _).1 hx
    · rw [if_neg (fun e => hx ((inB_iff _ _).1 e))]
      exact join_l1 l hl hz i hi K (fun out k a b c d => hK out k a b c d) out hs hm hn hx out.length 0 k (by omega) (by simp) (by omega)
theorem refJoin_is (a b : List ByteArray) (ha : few a) (hb : few b) : ∃ K, ∀ k, K ≤ k → ∃ r, althingref04_Join.f k a b = some r ∧ Joined a b r := by
  obtain ⟨K, hK⟩ := join_l0 (a ++ b) (by rw [List.length_append]; have := ha.1; have := hb.1; omega) (fun x hx => by rcases List.mem_append.1 hx with h | h; have := ha.2 x h; omega; have := hb.2 x h; omega) (a ++ b).length 0 (by omega)
  refine ⟨K, fun k hk => ?_⟩
  obtain ⟨r, hr, hj⟩ := hK [] k (by simp) (by simp) (by simp) hk
  refine ⟨r, ?_, hj.1, fun x => (hj.2 x).trans List.mem_append⟩
  unfold althingref04_Join.f
  simp only [Option.bind_some, List.nil_append, List.length_nil]
  have := ha.1
  have := hb.1
  rw [if_pos (by omega), if_pos (by omega)]
  exact hr
end Go.Proofs.Ytklbmdakoeoplaa.Strs
end
section
namespace Go.Proofs.Ytklbmdakoeoplaa.Strs
open Go.RowKit Go.Proofs.YtklbmdakoeoplaaW.PrintWords Go.Proofs.YtklbmdakoeoplaaW.PrintLast Go.Proofs.YtklbmdakoeoplaaW.PrintMore Go.Proofs.Ytklbmdakoeoplaa.X
set_option linter.unusedSimpArgs false
set_option linter.unusedVariables false
theorem rjoin_ev (a b : List ByteArray) (ha : few a) (hb : few b) : Ev (fun k => althingref04_Join.f k a b) (joinB a b) := by
  obtain ⟨K, hK⟩ := refJoin_is a b ha hb
  refine ⟨K, fun k hk => ?_⟩
  obtain ⟨r, hr, hj⟩ := hK k hk
  show althingref04_Join.f k a b = _
  rw [hr, hj.unique (joinB_joined a b)]
theorem few_nil : few [] := ⟨by simp, by simp⟩
section
variable (a b c d e s : Int) (r : List Rd) (w : List Wr) (m : Bool)
theorem keys_few (h : small r w) : few (keysB r w) := by
  refine ⟨?_, fun x hx => ?_⟩
  · have := joinB_len (rk r) (wk w)
    have := h.1
    have := h.2.1
    have e1 : (rk r).length = r.length := by unfold rk; rw [List.length_map]
    have e2 : (wk w).length = w.length := by unfold wk; rw [List.length_map]
    unfold keysB; omega
  · rcases joinB_mem hx with h1 | h1
    · exact (rk_few h).2 x h1
    · exact (wk_few h).2 x h1
theorem joinB_flat (l m : List ByteArray) : joinB (l ++ m) [] = joinB l m :=
  Joined.unique (a := l) (b := m) ⟨(joinB_joined (l ++ m) []).1, fun x => by rw [(joinB_joined (l ++ m) []).2 x, List.mem_append]; simp⟩ (joinB_joined l m)
theorem rkeys_l1 (h : small r w) : ∀ dd i, i + dd = w.length → Ev (fun k => althingref05_Keys.l1 k (rk r ++ wk (w.take i)) (i : Int) a b c d e s r w m) (keysB r w)
  | 0, i, hi => by
    refine Ev.step (f := fun k => (althingref04_Join.f k (rk r ++ wk (w.take i)) ([] : List ByteArray)).bind fun t => some t) (fun k => ?_) ?_
    · simp only [althingref05_Keys.l1]; rw [if_neg (by omega)]
    · rw [show i = w.length by omega, List.take_length]
      refine Ev.bind (rjoin_ev _ _ ⟨?_, fun x hx => ?_⟩ few_nil) (Ev.const (by rw [joinB_flat]; rfl))
      · rw [List.length_append]
        have := h.1
        have := h.2.1
        unfold rk wk; rw [List.length_map, List.length_map]; omega
      · rcases List.mem_append.1 hx with h1 | h1
        · exact (rk_few h).2 x h1
        · exact (wk_few h).2 x h1
  | dd + 1, i, hi => by
    have hil : i < w.length := by omega
    have hw := h.2.1
    have hr := h.1
    refine Ev.step (fun k => ?_) (rkeys_l1 h dd (i + 1) (by omega))
    simp only [althingref05_Keys.l1]
    rw [if_pos (by omega), if_pos (by omega), if_pos (by unfold rk wk; rw [List.length_append, List.length_map, List.length_map, List.length_take]; omega), rdW w i hil, w1 i (by omega), List.take_succ_eq_append_getElem hil]
    unfold wk
    rw [List.map_append, List.append_assoc]; rfl
theorem rkeys_l0 (h : small r w) : ∀ dd i, i + dd = r.length → Ev (fun k => althingref05_Keys.l0 k (rk (r.take i)) (i : Int) a b c d e s r w m) (keysB r w)
  | 0, i, hi => by
    have hq := rkeys_l1 a b c d e s r w m h w.length 0 (by omega)
    refine Ev.step (fun k => ?_) hq
    simp only [althingref05_Keys.l0]
    rw [if_neg (by omega), show i = r.length by omega, List.take_length, List.take_zero, show wk [] = [] from rfl, List.append_nil]; rfl
  | dd + 1, i, hi => by
    have hil : i < r.length := by omega
    have hr := h.1
    refine Ev.step (fun k => ?_) (rkeys_l0 h dd (i + 1) (by omega))
    simp only [althingref05_Keys.l0]
    rw [if_pos (by omega), if_pos (by omega), if_pos (by unfold rk; rw [List.length_map, List.length_take]; omega), rdR r i hil, w1 i (by omega), List.take_succ_eq_append_getElem hil]
    unfold rk
    rw [List.map_append]; rfl
theorem rkeys_is (h : small r w) : Ev (fun k => althingref05_Keys.f k a b c d e s r w m) (keysB r w) := rkeys_l0 a b c d e s r w m h r.length 0 (by omega)
end
theorem rmeet_l0 (l m : List ByteArray) (hl : l.length ≤ 2000) (hm : m.length ≤ 2000) : ∀ dd i, i + dd = l.length → Ev (fun k => althingref05_Interfere.l0 k l m (i : Int)) (meetB (l.drop i) m)
  | 0, i, hi => by
    refine Ev.step (f := fun _ => some false) (fun k => ?_) (Ev.const ?_)
    · simp only [althingref05_Interfere.l0]; rw [if_neg (by omega)]
    · rw [List.drop_eq_nil_of_le (by omega)]; rfl
  | dd + 1, i, hi => by
    have hil : i < l.length := by omega
    have e : meetB (l.drop i) m = (inB m l[i] || meetB (l.drop (i + 1)) m) := by rw [List.drop_eq_getElem_cons hil]; rfl
    refine Ev.step (f := fun k => (althingref04_In.f k m (rdOf ByteArray.empty l (i : Int))).bind fun t => if t = true then some true else althingref05_Interfere.l0 k l m ((i + 1 : Nat) : Int)) (fun k => ?_) ?_
    · simp only [althingref05_Interfere.l0]; rw [if_pos (by omega), if_pos (by omega), w1 i (by omega)]
    · rw [rd_at l i hil, e]
      have hin : Ev (fun k => althingref04_In.f k m l[i]) (inB m l[i]) := ⟨2001, fun k hk => in_is m l[i] hm k hk⟩
      cases hb : inB m l[i] with
      | true => exact Ev.bindT (hb ▸ hin) (Ev.const rfl)
      | false =>
        rw [Bool.false_or]
        exact Ev.bindF (hb ▸ hin) (rmeet_l0 l m hl hm dd (i + 1) (by omega))
section
variable (a b c d e s : Int) (r : List Rd) (w : List Wr) (m : Bool) (a' b' c' d' e' s' : Int) (r' : List Rd) (w' : List Wr) (m' : Bool)
theorem rinter_j0 (h : small r w) (h' : small r' w') (x : Bool) : Ev (fun k => althingref05_Interfere.j0 k x a b c d e s r w m a' b' c' d' e' s' r' w' m') (!x && ((b == b' && (c == c')) || meetB (keysB r w) (keysB r' w'))) := by
  cases x with
  | true =>
    refine Ev.step (f := fun _ => some false) (fun k => ?_) (Ev.const rfl)
    simp only [althingref05_Interfere.j0]; rw [if_pos trivial]
  | false =>
    cases hx : (b == b' && (c == c')) with
    | true =>
      refine Ev.step (f := fun _ => some true) (fun k => ?_) (Ev.const rfl)
      simp only [althingref05_Interfere.j0]; rw [if_neg (by simp), if_pos hx]
    | false =>
      have hq := rmeet_l0 (keysB r w) (keysB r' w') (by have := (keys_few r w h).1; omega) (by have := (keys_few r' w' h').1; omega) (keysB r w).length 0 (by omega)
      have hM : Ev (fun k => (althingref05_Keys.f k a b c d e s r w m).bind fun t329 => (althingref05_Keys.f k a' b' c' d' e' s' r' w' m').bind fun t332 => althingref05_Interfere.l0 k t329 t332 0) (meetB (keysB r w) (keysB r' w')) := Ev.bind (rkeys_is a b c d e s r w m h) (Ev.bind (rkeys_is a' b' c' d' e' s' r' w' m' h') (by simpa using hq))
      rw [Bool.not_false, Bool.true_and, Bool.false_or]
      refine Ev.step (fun k => ?_) hM
      simp only [althingref05_Interfere.j0]; rw [if_neg (by simp), if_neg (by simp [hx])]
theorem rinter_is (h : small r w) (h' : small r' w') : Ev (fun k => althingref05_Interfere.f k a b c d e s r w m a' b' c' d' e' s' r' w' m') (interB a b c r w a' b' c' r' w') := by
  unfold interB althingref05_Interfere.f
  by_cases ha : a = 0
  · simp only [ha, ↓reduceIte, decide_true, Bool.true_or]
    exact rinter_j0 0 b c d e s r w m a' b' c' d' e' s' r' w' m' h h' true
  · simp only [ha, ↓reduceIte, decide_false, Bool.false_or]
    exact rinter_j0 a b c d e s r w m a' b' c' d' e' s' r' w' m' h h' (a' == 0)
end
end Go.Proofs.Ytklbmdakoeoplaa.Strs
end
section
namespace Go.Proofs.Ytklbmdakoeoplaa.Strs
open Go.RowKit Go.Proofs.YtklbmdakoeoplaaW.PrintWords Go.Proofs.YtklbmdakoeoplaaW.PrintLast Go.Proofs.YtklbmdakoeoplaaW.PrintMore Go.Proofs.Ytklbmdakoeoplaa.X
set_option linter.unusedSimpArgs false
set_option linter.unusedVariables false
theorem last_l0 (l : List Rc) (i : Nat) (hi : i < l.length) (hl : l.length ≤ 1000) : ∀ dd j, j + dd = l.length → Ev (fun k => althingref11_Last.l0 k l (i : Int) (j : Int)) (!(l.drop j).any (sameB l[i]))
  | 0, j, hj => by
    refine Ev.step (f := fun _ => some true) (fun k => ?_) (Ev.const ?_)
    · simp only [althingref11_Last.l0]; rw [if_neg (by omega)]
    · rw [List.drop_eq_nil_of_le (by omega)]; rfl
  | dd + 1, j, hj => by
    have hjl : j < l.length := by omega
    rw [List.drop_eq_getElem_cons hjl, List.any_cons]
    have e : sameB l[i] l[j] = (l[j].f0.f0 == l[i].f0.f0 && (l[j].f0.f1 == l[i].f0.f1)) := rfl
    cases hs : sameB l[i] l[j] with
    | true =>
      refine Ev.step (f := fun _ => some false) (fun k => ?_) (Ev.const (by simp))
      simp only [althingref11_Last.l0]
      rw [if_pos (by omega), if_pos (by omega), if_pos (by omega), if_pos (by omega), rdRc l j hjl, rdRc l i hi, ← e, hs, if_pos rfl]
    | false =>
      rw [Bool.false_or]
      refine Ev.step (fun k => ?_) (last_l0 l i hi hl dd (j + 1) (by omega))
      simp only [althingref11_Last.l0]
      rw [if_pos (by omega), if_pos (by omega), if_pos (by omega), if_pos (by omega), rdRc l j hjl, rdRc l i hi, ← e, hs, if_neg (by simp), w1 j (by omega)]
theorem last_is (l : List Rc) (i : Nat) (hi : i < l.length) (hl : l.length ≤ 1000) : Ev (fun k => althingref11_Last.f k l (i : Int)) (!(l.drop (i + 1)).any (sameB l[i])) := by
  have := last_l0 l i hi hl (l.length - (i + 1)) (i + 1) (by omega)
  refine Ev.congr (fun k => ?_) this
  unfold althingref11_Last.f
  rw [w1 i (by omega)]
end Go.Proofs.Ytklbmdakoeoplaa.Strs
end
section
namespace Go.Proofs.Ytklbmdakoeoplaa.Pure
open Go.RowKit Go.Proofs.Ytklbmdakoeoplaa.Strs Go.Proofs.YtklbmdakoeoplaaW.PrintWords Go.Proofs.YtklbmdakoeoplaaW.PrintLast Go.Proofs.YtklbmdakoeoplaaW.PrintMore Go.Proofs.Ytklbmdakoeoplaa.X
set_option linter.unusedSimpArgs false
set_option linter.unusedVariables false
def hasB (d : S42) (i : S24) : Bool := decide (0 ≤ i.f0 ∧ i.f0 < 7 ∧ 1 ≤ i.f1 ∧ i.f1 ≤ at7 d.f0 d.f1 d.f2 d.f3 d.f4 d.f5 d.f6 i.f0)
def recInter (x y : Rc) : Bool := interB x.f4.f0 x.f4.f1.f0 x.f4.f1.f1 x.f4.f4 x.f4.f5 y.f4.f0 y.f4.f1.f0 y.f4.f1.f1 y.f4.f4 y.f4.f5
def orderedB (x y : Rc) : Bool := !recInter x y || hasB x.f6 y.f0 || hasB y.f6 x.f0
theorem ordered_is (x y : Rc) (hx : small x.f4.f4 x.f4.f5) (hy : small y.f4.f4 y.f4.f5) : Ev (fun k => index_Ordered.f k x.f0.f0 x.f0.f1 x.f1 x.f2.f0 x.f2.f1 x.f3.f0 x.f3.f1 x.f4.f0 x.f4.f1.f0 x.f4.f1.f1 x.f4.f2.f0 x.f4.f2.f1 x.f4.f3 x.f4.f4 x.f4.f5 x.f4.f6 x.f5 x.f6.f0 x.f6.f1 x.f6.f2 x.f6.f3 x.f6.f4 x.f6.f5 x.f6.f6 x.f7 y.f0.f0 y.f0.f1 y.f1 y.f2.f0 y.f2.f1 y.f3.f0 y.f3.f1 y.f4.f0 y.f4.f1.f0 y.f4.f1.f1 y.f4.f2.f0 y.f4.f2.f1 y.f4.f3 y.f4.f4 y.f4.f5 y.f4.f6 y.f5 y.f6.f0 y.f6.f1 y.f6.f2 y.f6.f3 y.f6.f4 y.f6.f5 y.f6.f6 y.f7) (orderedB x y) := by
  have hin := inter_is x.f4.f0 x.f4.f1.f0 x.f4.f1.f1 x.f4.f2.f0 x.f4.f2.f1 x.f4.f3 x.f4.f4 x.f4.f5 x.f4.f6 y.f4.f0 y.f4.f1.f0 y.f4.f1.f1 y.f4.f2.f0 y.f4.f2.f1 y.f4.f3 y.f4.f4 y.f4.f5 y.f4.f6 hx hy
  unfold orderedB index_Ordered.f
  cases hi : recInter x y with
  | false => exact Ev.bindF (by unfold recInter at hi; rw [hi] at hin; exact hin) (Ev.const rfl)
  | true =>
    refine Ev.bindT (by unfold recInter at hi; rw [hi] at hin; exact hin) ?_
    refine Ev.const ?_
    show (some (hasB x.f6 y.f0)).bind _ = _
    rw [Option.bind_some]
    cases h1 : hasB x.f6 y.f0 with
    | true => rfl
    | false => rw [if_neg (by simp)]; rfl
end Go.Proofs.Ytklbmdakoeoplaa.Pure
end
