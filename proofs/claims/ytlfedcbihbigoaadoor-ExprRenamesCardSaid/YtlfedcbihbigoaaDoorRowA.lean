/- What the rows' condition on the laid variables gives a walk; a start that meets it. -/
import Derived.Test.YtlfedcbihbigoaaDoorRows
import Derived.Test.YtlfedcbihbigoaaDoorGlob
import Derived.KernelRfl
import Derived.ProofKit
import Derived.LaidMore
import Derived.OpenShut
import Derived.ShutString
import Derived.MakeChecks
import Derived.Stop.Joined
import Derived.HandedShaped
set_option linter.unusedVariables false
set_option linter.unusedSimpArgs false
namespace Go.Proofs.YtlfedcbihbigoaaDoor
open Go.ChangeShapes Go.WideShapes Go.ChangeAt Go.RowKit
open Go.ChangeMaps (open_string shut_string)
namespace Step

theorem own : ownKnob Tryd.prog.godebug = none := by kernel_rfl
theorem laidOut : laidOutB Tryd.prog = true := by kernel_rfl
theorem gW : Tryd.prog.globalNamed "warehouse/token.words" = some 0 := by kernel_rfl
theorem tW : (Tryd.prog.globals[ 0 ]?).map (·.type) = some 36 := by kernel_rfl
theorem cStr : Tryd.prog.cellsOf 9 = 1 := by kernel_rfl
theorem cInt : Tryd.prog.cellsOf 3 = 1 := by kernel_rfl

theorem strVar_of {W : World} {nm : String} {g : Nat} {cs : Array Value} {f : Nat} {p : List MemPlace} {held : Bool} (ds : List Bytes)
    (hg : Tryd.prog.globalNamed nm = some g) (hv : W.var? Tryd.prog nm = some cs)
    (hd : DataW.trod (fun _ => ()) Tryd.prog W 0 (fun _ => true) held f 36 cs.toList = some (.slice (ds.map fun l => .lit (.string l)) [], p)) (hne : 0 < ds.length) : StrVar W g ds := by
  obtain ⟨a, cap, hcs, hl, hel⟩ := open_row Tryd.underlying36 cStr hd
  have read : ∀ i (h : i < ds.length), W.cell? (a.add i) = some (str ds[i]) := fun i h => by
    obtain ⟨v, n, q, hc, hr⟩ := hel i (.lit (.string ds[i])) (by simp [h])
    obtain ⟨s, e1, e2, _⟩ := DataW.trod_string Tryd.underlying9 hr
    obtain rfl : v = .string s := by simpa using e1
    have e3 : ds[i] = s.data.toList := by simpa using (congrArg Prod.fst e2)
    rw [hc, e3]
  have h0 := read 0 hne
  obtain ⟨b, off, spot⟩ := a
  have hspot : spot = none := by simpa [Addr.add] using World.cell?_spot h0
  subst hspot
  have hcell : W.cell? ⟨g, 0, none⟩ = some (.slice (some ⟨b, off, none⟩) ds.length cap) := by
    have := World.var?_cell hg hv 0
    rw [Array.eq_one_of_toList hcs] at this
    simpa using this
  refine ⟨World.block_lt_of_cell? W _ hcell, b, off, cap, World.block_lt_of_cell? W _ h0, hcell, fun j hj => ?_⟩
  have := read j hj
  rw [List.getD_eq_getElem?_getD, List.getElem?_eq_getElem hj]
  cases j with
  | zero => simpa [Addr.add] using this
  | succ j => simpa [Addr.add] using this

/-- The wrap for a row whose condition is more than its data's, the world's shape kept. -/
theorem handed_and_shaped {H : Type} {enc : TypeId × Value → H} {a : Assume} {C : Checked} {os : Os} {f : FuncId} {fn : Func} {s : ChangeSpec} {conds : List PathCond} {apart fresh handsOn again : Bool} {X : World → Array Value → Prop}
    (hX : ∀ (w w' : World) (args : Array Value), w.heap = w'.heap → X w args → X w' args)
    (own : ownKnob C.prog.godebug = none) (started : os.Started) (noInit : C.prog.inits.idxOf? f = none) (hfn : C.prog.funcs[f]? = some fn)
    (witness : ∃ (w : World) (tape : Tape) (i : Input), w.os = os ∧ (w.forCall tape i).Shaped C.prog ∧ i.vars = [] ∧ Input.okWide C.prog (w.forCall tape i) .any w.heap.size f i ∧
      ((s.pre enc C.prog fn conds apart (w.forCall tape i).memory i.args ∧ X (w.forCall tape i).memory i.args) ∧ sizedMet enc C.prog fn (OpenSpec.ofChange s) apart (w.forCall tape i).memory i.args) ∧ a.holds C.prog (lone (Frame.enter C.prog f i.args .normal) [] (w.forCall tape i)))
    (contract : ∀ (W : World) (base : Nat) (args : Array Value) (ds gs : List (DataW H)) (before : List MemPlace),
      (∀ (j : Nat) t v, fn.params[j]? = some t → args[j]? = some v → Value.okWide C.prog W .any base t v) →
      DataW.Whole enc C.prog fn.params.toList s.vars apart W args.toList ds gs before → W.ShapedOpen C.prog → X W args →
      Calls C.prog f args W fun e W' => ∃ v, e = .returned v ∧ s.post enc C.prog fn apart fresh handsOn again W args v W') :
    ReturnsInHanded a C os f .any (fun w args => (s.pre enc C.prog fn conds apart w args ∧ X w args) ∧ sizedMet enc C.prog fn (OpenSpec.ofChange s) apart w args) (s.post enc C.prog fn apart fresh handsOn again) := by
  refine returnsInHanded_of_calls own started noInit witness ?_
  intro w tape i hos hshape hvars hok hpre hholds
  obtain ⟨_, _, _, fn2, hfn2, _, _, _, _, hval⟩ := hok
  obtain rfl : fn2 = fn := Option.some.inj (hfn2.symm.trans hfn)
  obtain ⟨⟨⟨ds, gs, before, hw, hc⟩, hx⟩, hz⟩ := hpre
  have hw2 := DataW.Whole.of_heap (w' := w.forCall tape i) (by rfl) hw
  refine (contract (w.forCall tape i) w.heap.size i.args ds gs before hval hw2 hshape (hX _ _ _ (by rfl) hx)).mono fun e W' ⟨v, he, hp⟩ => ?_
  subst he
  exact ChangeSpec.post_blind hp
end Step
end Go.Proofs.YtlfedcbihbigoaaDoor
