/- Parts of the proof. -/
import Derived.Test.YtmbeeefkpgfgmaaGreatDoorRows
import Derived.ProofKit
import Derived.LaidMore
import Derived.OpenShut
import Derived.ShutString
import Derived.MakeChecks
import Derived.Stop.Joined
import Derived.HandedShaped
import Derived.Test.YtmbeeefkpgfgmaaGreatDoorPp11
import Derived.Shelf.Vars
import Derived.LaidSub
import Derived.Lay
import Derived.Lib.LaidTab
set_option linter.unusedVariables false
set_option linter.unusedSimpArgs false
namespace Go.Proofs.YtmbeeefkpgfgmaaGreatDoor
open Go.Proofs.Tryz
section
open Go.ChangeShapes Go.WideShapes Go.ChangeAt Go.RowKit
open Go.ChangeMaps (open_string shut_string)
namespace Step
theorem own : ownKnob prog.godebug = none := by kernel_rfl
theorem laidOut : laidOutB prog = true := by kernel_rfl
theorem gW : prog.globalNamed "warehouse/token.words" = some 2 := by kernel_rfl
theorem gS : prog.globalNamed "warehouse/token.symbols" = some 3 := by kernel_rfl
theorem gL : prog.globalNamed "warehouse/civil.lengths" = some 5 := by kernel_rfl
theorem tW : (prog.globals[ 2 ]?).map (·.type) = some 23 := by kernel_rfl
theorem tL : (prog.globals[ 5 ]?).map (·.type) = some 288 := by kernel_rfl
theorem u99 : prog.underlying 288 = some (.array 12 3) := by kernel_rfl
theorem cStr : prog.cellsOf 9 = 1 := by kernel_rfl
theorem cInt : prog.cellsOf 3 = 1 := by kernel_rfl
theorem j_Z {W : World} {nm : String} {g : Nat} {cs : Array Value} {f : Nat} {p : List MemPlace} {held : Bool} (ds : List a_3)
  (hg : prog.globalNamed nm = some g) (hv : W.var? prog nm = some cs)
  (hd : DataW.trod (fun _ => ()) prog W 0 (fun _ => true) held f 23 cs.toList = some (.slice (ds.map fun l => .lit (.string l)) [], p)) (hne : 0 < ds.length) : a_X W g ds := by
 obtain ⟨a, cap, hcs, hl, hel⟩ := open_row underlying23 cStr hd
 have read : ∀ i (h : i < ds.length), W.cell? (a.add i) = some (str ds[i]) := fun i h => by
  obtain ⟨v, n, q, hc, hr⟩ := hel i (.lit (.string ds[i])) (by simp [h])
  obtain ⟨s, e1, e2, _⟩ := DataW.trod_string underlying9 hr
  obtain rfl : v = .string s := by simpa using e1
  have e3 : ds[i] = s.data.toList := by simpa using (congrArg Prod.fst e2)
  rw [hc, e3]
 have h0 := read 0 hne
 obtain ⟨b, off, spot⟩ := a
 have hspot : spot = none := by simpa [Addr.add] using World.cell?_spot h0
 subst hspot
 have hcell : W.cell? ⟨g, 0, none⟩ = some (.slice (some ⟨b, off, none⟩) ds.length cap) := by
  have := World.var?_cell hg hv 0
  rw [Array.eq_one_of_toList hcs] at this
  simpa using this
 refine ⟨World.block_lt_of_cell? W _ hcell, b, off, cap, World.block_lt_of_cell? W _ h0, hcell, fun j hj => ?_⟩
 have := read j hj
 rw [List.getD_eq_getElem?_getD, List.getElem?_eq_getElem hj]
 cases j with
 | zero => simpa [Addr.add] using this
 | succ j => simpa [Addr.add] using this
theorem o_4 {W : World} {cs : Array Value} {f : Nat} {p : List MemPlace} {held : Bool} (hv : W.var? prog "warehouse/civil.lengths" = some cs)
  (hd : DataW.trod (fun _ => ()) prog W 0 (fun _ => true) held f 288 cs.toList = some (.agg (g_J.map fun n => .lit (.int .i64 n)), p)) : e_t W 5 := by
 obtain ⟨xs, m, rfl, hx, hlen, hn, hel⟩ := DataW.trod_array u99 hd
 have c99 : prog.cellsOf 288 = 12 := by kernel_rfl
 rw [c99] at hlen
 simp only [Prod.mk.injEq, DataW.agg.injEq] at hx
 have read : ∀ j, j < 12 → W.cell? ⟨5, j, none⟩ = some (.int .i64 (g_J.getD j 0)) := fun j hj => by
  have h := hel j hj
  rw [cInt] at h
  have hj' : j < xs.length := by omega
  have hc : j < cs.toList.length := by omega
  rw [List.getElem?_eq_getElem hj'] at h
  obtain ⟨n, e1, e2, _⟩ := DataW.trod_int underlying3 h
  have h3 : cs[j]? = some (.int .i64 n) := by
   have := congrArg (·[0]?) e1
   simp at this
   simpa using this
  have h4 : g_J.getD j 0 = n := by
   have h5 := congrArg (·[j]?) hx.1; simp only [List.getElem?_map, List.getElem?_eq_getElem hj', e2, Option.map_some] at h5; rw [List.getD_eq_getElem?_getD]
   cases hm : g_J[j]? with
   | none => rw [hm] at h5; cases h5
   | some k => rw [hm] at h5; simpa using h5
  have := World.var?_cell gL hv j
  rw [h4, this]
  exact h3
 exact u_q
theorem handed_and_shaped {H : Type} {enc : TypeId × Value → H} {a : Assume} {C : Checked} {os : Os} {f : FuncId} {fn : Func} {s : ChangeSpec} {conds : List PathCond} {apart fresh handsOn again : Bool} {X : World → Array Value → Prop}
  (hX : ∀ (w w' : World) (args : Array Value), w.heap = w'.heap → X w args → X w' args)
  (own : ownKnob C.prog.godebug = none) (started : os.Started) (noInit : C.prog.inits.idxOf? f = none) (hfn : C.prog.funcs[f]? = some fn)
  (witness : ∃ (w : World) (tape : Tape) (i : Input), w.os = os ∧ (w.forCall tape i).Shaped C.prog ∧ i.vars = [] ∧ Input.okWide C.prog (w.forCall tape i) .any w.heap.size f i ∧
   ((s.pre enc C.prog fn conds apart (w.forCall tape i).memory i.args ∧ X (w.forCall tape i).memory i.args) ∧ sizedMet enc C.prog fn (OpenSpec.ofChange s) apart (w.forCall tape i).memory i.args) ∧ a.holds C.prog (lone (Frame.enter C.prog f i.args .normal) [] (w.forCall tape i)))
  (contract : ∀ (W : World) (base : Nat) (args : Array Value) (ds gs : List (DataW H)) (before : List MemPlace),
   (∀ (j : Nat) t v, fn.params[j]? = some t → args[j]? = some v → Value.okWide C.prog W .any base t v) →
   DataW.Whole enc C.prog fn.params.toList s.vars apart W args.toList ds gs before → W.ShapedOpen C.prog → X W args →
   Calls C.prog f args W fun e W' => ∃ v, e = .returned v ∧ s.post enc C.prog fn apart fresh handsOn again W args v W') :
  ReturnsInHanded a C os f .any (fun w args => (s.pre enc C.prog fn conds apart w args ∧ X w args) ∧ sizedMet enc C.prog fn (OpenSpec.ofChange s) apart w args) (s.post enc C.prog fn apart fresh handsOn again) := by
 refine returnsInHanded_of_calls own started noInit witness ?_
 intro w tape i hos hshape hvars hok hpre hholds
 obtain ⟨_, _, _, fn2, hfn2, _, _, _, _, hval⟩ := hok
 obtain rfl : fn2 = fn := Option.some.inj (hfn2.symm.trans hfn)
 obtain ⟨⟨⟨ds, gs, before, hw, hc⟩, hx⟩, hz⟩ := hpre
 have hw2 := DataW.Whole.of_heap (w' := w.forCall tape i) r_ hw
 refine (contract (w.forCall tape i) w.heap.size i.args ds gs before hval hw2 hshape (hX _ _ _ r_ hx)).mono fun e W' ⟨v, he, hp⟩ => ?_
 subst he
 exact ChangeSpec.post_blind hp
end Step
theorem Step.ints_of {H : Type} {enc : TypeId × Value → H} {W : World} {A : Option Addr} {len cap : Nat} {d : DataW H} {p : List MemPlace} {held : Bool}
  (h : DataW.Trod enc prog W 0 (fun _ => true) held 28 (.slice A len cap) d p) : ∃ l : List Int, len = l.length ∧ g_0 W A l := by
 obtain ⟨fuel, hf⟩ := h
 rcases open_ints underlying28 underlying3 k_ hf with ⟨hcs, _⟩ | ⟨x, len', cap', zs, hcs, _, hl, hm, hz, _, hcell, hwz⟩
 ·simp [Value.cells] at hcs
  obtain ⟨rfl, rfl, rfl⟩ := hcs
  exact ⟨[], rfl, .inl rfl⟩
 ·simp [Value.cells] at hcs
  obtain ⟨rfl, rfl, rfl⟩ := hcs
  have hz' : zs.length = cap := by simpa using hz
  refine ⟨zs.take len, m_, ?_⟩
  by_cases h0 : cap = 0
  ·exact .inl (List.eq_nil_of_length_eq_zero m_)
  ·refine .inr ⟨x, rfl, ?_, m_, fun k hk => ?_⟩
   ·have := World.block_lt_of_cell? W _ (hcell 0 o_)
    simpa [Addr.add] using this
   ·have hk' : k < len ∧ k < zs.length := by
     rw [List.length_take] at hk
     omega
    rw [hcell k hk'.2]
    simp [List.getD_eq_getElem?_getD, List.getElem?_take, hk'.1]
end
section
open Go.ChangeShapes Go.WideShapes Go.ChangeAt Go.RowKit
namespace Step
end Step
end
end Go.Proofs.YtmbeeefkpgfgmaaGreatDoor
