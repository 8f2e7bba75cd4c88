/- The Console seat: what the rows' condition gives a walk; a start that meets it; a value by value. -/
import Derived.Test.YtajcddaahmbllaaDoorRowA
import Derived.Test.YtajcddaahmbllaaDoorJoinC
import Derived.Test.YtajcddaahmbllaaDoorConA
import Derived.Shelf.Vars
import Derived.LaidSub
import Derived.Lay
import Derived.Lib.LaidTab
import Derived.Lib.SmallJoins
set_option linter.unusedVariables false
set_option linter.unusedSimpArgs false
namespace Go.Proofs.YtajcddaahmbllaaDoor
open Go.ChangeShapes Go.WideShapes Go.ChangeAt Go.RowKit
namespace Step
def laidK : List (String × DataW Unit) := Rows.consoleLiteralsRow.laid
theorem door_metK (os : Os) (args : Array Value) : laidMetH Tryd.prog laidK ((World.laidAll Tryd.prog os laidK).forCall (fun _ _ => 0) ⟨#[], args, []⟩).memory := by
  rw [MakeChecks.laidMetH_plain _ _ _ (by kernel_rfl)]
  exact laidMet_laidAll args (by kernel_rfl) (by kernel_rfl)
theorem door_shapedK (os : Os) (args : Array Value) : ((World.laidAll Tryd.prog os laidK).forCall (fun _ _ => 0) ⟨#[], args, []⟩).Shaped Tryd.prog :=
  World.shaped_of_ZipB (by kernel_rfl) (by kernel_rfl)
theorem tPowK : (Tryd.prog.globals[ 3 ]?).map (·.type) = some 119 := by kernel_rfl
theorem tab_of_K {W : World} (h : laidMetH Tryd.prog laidK W) : Lib.TabIs Tryd.prog W "internal/strconv.uint64pow10" .u64 Lib.pow10Tab := by
  have h2 := h.filter (fun x => x.1 == "internal/strconv.uint64pow10")
  have e : laidK.filter (fun x => x.1 == "internal/strconv.uint64pow10") = [("internal/strconv.uint64pow10", Rows.laid_internal_strconv_uint64pow10)] := by
    simp [laidK, Rows.consoleLiteralsRow, List.filter]
  rw [e, MakeChecks.laidMetH_plain _ _ _ (by kernel_rfl)] at h2
  exact Lib.tabIs_of_head (n := 20) gPow tPowK Tryd.underlying119 Tryd.underlying90 (by kernel_rfl) (by kernel_rfl) h2
theorem glob_of_K {W : World} (h : laidMetH Tryd.prog laidK W) : Glob W := by
  have h2 := h.filter (fun x => x.1 == "warehouse/civil.lengths" || x.1 == "warehouse/token.symbols")
  have e : laidK.filter (fun x => x.1 == "warehouse/civil.lengths" || x.1 == "warehouse/token.symbols") = [("warehouse/civil.lengths", Rows.laid_warehouse_civil_lengths), ("warehouse/token.symbols", Rows.laid_warehouse_token_symbols)] := by
    simp [laidK, Rows.consoleLiteralsRow, List.filter]
  rw [e, MakeChecks.laidMetH_plain _ _ _ (by kernel_rfl)] at h2
  obtain ⟨ps, ⟨g2, t2, cs2, f2, p2, q2, hg2, ht2, hv2, hd2, ⟨g1, t1, cs1, f1, p1, q1, hg1, ht1, hv1, hd1, _, _⟩, _⟩, _, _⟩ := h2
  obtain rfl := Option.some.inj (gL.symm.trans hg2)
  obtain rfl := Option.some.inj (gS.symm.trans hg1)
  obtain rfl := Option.some.inj (tL.symm.trans ht2)
  obtain rfl := Option.some.inj (tS.symm.trans ht1)
  exact ⟨lenVar_of hv2 hd2, strVar_of symbolsS hg1 hv1 hd1 (by decide)⟩
theorem globK_of {W : World} (h : laidMetH Tryd.prog laidK W) (hs : W.ShapedOpen Tryd.prog) : GlobJ W :=
  ⟨glob_of_K h, cell_of_shapedOpen_int (P := Tryd.prog) (g := 2) (t := 3) (zero := #[.int .i64 0]) hs (of_decide_eq_true (by kernel_rfl)) (by kernel_rfl) rfl (by kernel_rfl) (by kernel_rfl) Tryd.underlying3, tab_of_K h⟩
end Step
end Go.Proofs.YtajcddaahmbllaaDoor
