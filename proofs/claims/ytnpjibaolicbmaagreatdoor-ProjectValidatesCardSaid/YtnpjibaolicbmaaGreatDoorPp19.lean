/- Parts of the proof. -/
import Derived.Test.YtnpjibaolicbmaaGreatDoorPp07
set_option linter.unusedVariables false
set_option linter.unusedSimpArgs false
namespace Go.Proofs.YtnpjibaolicbmaaGreatDoor
open Go.RowKit
abbrev Kn := Int × Bool
def o_U (x y : Kn) : Int × Bool := if x.1 = 0 then (y.1, true) else (x.1, f_D y.1 x.1)
def unS (op : Int) (x : Kn) : Kn × Bool :=
 if op = 2 then ((1, x.2), f_D x.1 1) else if op = 3 then ((2, x.2), f_D x.1 2) else if op = 16 then ((1, false), true) else if op = 19 then ((2, x.2), f_D x.1 3) else ((2, x.2), f_D x.1 4)
def s_T (x y : Kn) : Kn × Bool :=
 if (x.1 = 4 ∨ x.1 = 0) ∧ y.1 = 4 then ((2, x.2 || y.2), true) else if x.1 = 4 then ((4, true), f_D y.1 2) else ((2, true), f_D x.1 2 && f_D y.1 2)
def bnS (op : Int) (x y : Kn) : Kn × Bool :=
 if op = 4 then (if x.1 = 4 then ((4, true), f_D y.1 2) else ((2, true), f_D x.1 2 && f_D y.1 2))
 else if op = 5 then s_T x y
 else if op = 6 ∨ op = 7 ∨ op = 8 then ((2, true), f_D x.1 2 && f_D y.1 2)
 else if op = 9 then ((3, true), f_D x.1 3 && f_D y.1 3)
 else if op = 14 ∨ op = 15 then ((1, x.2 || y.2), f_D x.1 1 && f_D y.1 1)
 else if op = 18 then (((o_U x y).1, x.2 && y.2), (o_U x y).2)
 else ((1, x.2 || y.2), (o_U x y).2)
end Go.Proofs.YtnpjibaolicbmaaGreatDoor
