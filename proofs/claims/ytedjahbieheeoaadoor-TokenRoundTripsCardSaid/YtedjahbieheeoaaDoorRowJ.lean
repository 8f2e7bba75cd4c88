/- What the condition of the rows that reach strconv and strings gives a walk; a start that meets it; the wrap with the world's shape. -/
import Derived.Test.YtedjahbieheeoaaDoorRowT
import Derived.Test.YtedjahbieheeoaaDoorJoinC
import Derived.HandedShaped
import Derived.Shelf.Vars
import Derived.LaidSub
import Derived.Lay
import Derived.Lib.LaidTab
set_option linter.unusedVariables false
set_option linter.unusedSimpArgs false
namespace Go.Proofs.YtedjahbieheeoaaDoor
open Go.ChangeShapes Go.WideShapes Go.ChangeAt Go.RowKit
namespace Step
def laidJ : List (String × DataW Unit) := Rows.tokenJoinsRow.laid
theorem door_metJ (os : Os) (args : Array Value) : laidMetH Tryd.prog laidJ ((World.laidAll Tryd.prog os laidJ).forCall (fun _ _ => 0) ⟨#[], args, []⟩).memory := by
  rw [MakeChecks.laidMetH_plain _ _ _ (by kernel_rfl)]
  exact laidMet_laidAll args (by kernel_rfl) (by kernel_rfl)
theorem door_shapedJ (os : Os) (args : Array Value) : ((World.laidAll Tryd.prog os laidJ).forCall (fun _ _ => 0) ⟨#[], args, []⟩).Shaped Tryd.prog :=
  World.shaped_of_ZipB (by kernel_rfl) (by kernel_rfl)
theorem laidL_of_J {W : World} (h : laidMetH Tryd.prog laidJ W) : laidMetH Tryd.prog laidL W := by
  have h2 := h.filter (fun x => x.1 == "warehouse/civil.lengths" || x.1 == "warehouse/token.words" || x.1 == "warehouse/token.symbols")
  have e : laidJ.filter (fun x => x.1 == "warehouse/civil.lengths" || x.1 == "warehouse/token.words" || x.1 == "warehouse/token.symbols") = laidL := by
    simp [laidJ, Rows.tokenJoinsRow, laidL, List.filter]
  rwa [e] at h2
theorem tPow : (Tryd.prog.globals[ 4 ]?).map (·.type) = some 105 := by kernel_rfl
theorem tab_of_J {W : World} (h : laidMetH Tryd.prog laidJ W) : Lib.TabIs Tryd.prog W "internal/strconv.uint64pow10" .u64 Lib.pow10Tab := by
  have h2 := h.filter (fun x => x.1 == "internal/strconv.uint64pow10")
  have e : laidJ.filter (fun x => x.1 == "internal/strconv.uint64pow10") = [("internal/strconv.uint64pow10", Rows.laid_internal_strconv_uint64pow10)] := by
    simp [laidJ, Rows.tokenJoinsRow, List.filter]
  rw [e, MakeChecks.laidMetH_plain _ _ _ (by kernel_rfl)] at h2
  exact Lib.tabIs_of_head (n := 20) gPow tPow Tryd.underlying105 Tryd.underlying93 (by kernel_rfl) (by kernel_rfl) h2
theorem globJ_of {W : World} (h : laidMetH Tryd.prog laidJ W) (hs : W.ShapedOpen Tryd.prog) : GlobJ W :=
  ⟨glob_of_laid (laidL_of_J h), cell_of_shapedOpen_int (P := Tryd.prog) (g := 3) (t := 3) (zero := #[.int .i64 0]) hs (of_decide_eq_true (by kernel_rfl)) (by kernel_rfl) rfl (by kernel_rfl) (by kernel_rfl) Tryd.underlying3, tab_of_J h⟩
/-- The wrap for a row whose condition is more than its data's, the world's shape kept. -/
theorem handed_and_shaped {H : Type} {enc : TypeId × Value → H} {a : Assume} {C : Checked} {os : Os} {f : FuncId} {fn : Func} {s : ChangeSpec} {conds : List PathCond} {apart fresh handsOn again : Bool} {X : World → Array Value → Prop}
    (hX : ∀ (w w' : World) (args : Array Value), w.heap = w'.heap → X w args → X w' args)
    (own : ownKnob C.prog.godebug = none) (started : os.Started) (noInit : C.prog.inits.idxOf? f = none) (hfn : C.prog.funcs[f]? = some fn)
    (witness : ∃ (w : World) (tape : Tape) (i : Input), w.os = os ∧ (w.forCall tape i).Shaped C.prog ∧ i.vars = [] ∧ Input.okWide C.prog (w.forCall tape i) .any w.heap.size f i ∧
      ((s.pre enc C.prog fn conds apart (w.forCall tape i).memory i.args ∧ X (w.forCall tape i).memory i.args) ∧ sizedMet enc C.prog fn (OpenSpec.ofChange s) apart (w.forCall tape i).memory i.args) ∧ a.holds C.prog (lone (Frame.enter C.prog f i.args .normal) [] (w.forCall tape i)))
    (contract : ∀ (W : World) (base : Nat) (args : Array Value) (ds gs : List (DataW H)) (before : List MemPlace),
      (∀ (j : Nat) t v, fn.params[j]? = some t → args[j]? = some v → Value.okWide C.prog W .any base t v) →
      DataW.Whole enc C.prog fn.params.toList s.vars apart W args.toList ds gs before → W.ShapedOpen C.prog → X W args →
      Calls C.prog f args W fun e W' => ∃ v, e = .returned v ∧ s.post enc C.prog fn apart fresh handsOn again W args v W') :
    ReturnsInHanded a C os f .any (fun w args => (s.pre enc C.prog fn conds apart w args ∧ X w args) ∧ sizedMet enc C.prog fn (OpenSpec.ofChange s) apart w args) (s.post enc C.prog fn apart fresh handsOn again) := by
  refine returnsInHanded_of_calls own started noInit witness ?_
  intro w tape i hos hshape hvars hok hpre hholds
  obtain ⟨_, _, _, fn2, hfn2, _, _, _, _, hval⟩ := hok
  obtain rfl : fn2 = fn := Option.some.inj (hfn2.symm.trans hfn)
  obtain ⟨⟨⟨ds, gs, before, hw, hc⟩, hx⟩, hz⟩ := hpre
  have hw2 := DataW.Whole.of_heap (w' := w.forCall tape i) (by rfl) hw
  refine (contract (w.forCall tape i) w.heap.size i.args ds gs before hval hw2 hshape (hX _ _ _ (by rfl) hx)).mono fun e W' ⟨v, he, hp⟩ => ?_
  subst he
  exact ChangeSpec.post_blind hp
end Step
end Go.Proofs.YtedjahbieheeoaaDoor
