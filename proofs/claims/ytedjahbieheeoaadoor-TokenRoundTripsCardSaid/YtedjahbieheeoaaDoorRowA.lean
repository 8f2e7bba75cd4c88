/- What the rows' condition on the laid variables gives a walk; a start that meets it. -/
import Derived.Test.YtedjahbieheeoaaDoorRows
import Derived.Test.YtedjahbieheeoaaDoorGlob
import Derived.KernelRfl
import Derived.ProofKit
import Derived.LaidMore
import Derived.OpenShut
import Derived.ShutString
import Derived.MakeChecks
import Derived.Stop.Joined
set_option linter.unusedVariables false
set_option linter.unusedSimpArgs false
namespace Go.Proofs.YtedjahbieheeoaaDoor
open Go.ChangeShapes Go.WideShapes Go.ChangeAt Go.RowKit
open Go.ChangeMaps (open_string shut_string)
namespace Step

theorem own : ownKnob Tryd.prog.godebug = none := by kernel_rfl
theorem laidOut : laidOutB Tryd.prog = true := by kernel_rfl
theorem gW : Tryd.prog.globalNamed "warehouse/token.words" = some 0 := by kernel_rfl
theorem gS : Tryd.prog.globalNamed "warehouse/token.symbols" = some 1 := by kernel_rfl
theorem gL : Tryd.prog.globalNamed "warehouse/civil.lengths" = some 2 := by kernel_rfl
theorem tW : (Tryd.prog.globals[ 0 ]?).map (·.type) = some 30 := by kernel_rfl
theorem tS : (Tryd.prog.globals[ 1 ]?).map (·.type) = some 30 := by kernel_rfl
theorem tL : (Tryd.prog.globals[ 2 ]?).map (·.type) = some 99 := by kernel_rfl
theorem u99 : Tryd.prog.underlying 99 = some (.array 12 3) := by kernel_rfl
theorem cStr : Tryd.prog.cellsOf 9 = 1 := by kernel_rfl
theorem cInt : Tryd.prog.cellsOf 3 = 1 := by kernel_rfl

def laidL : List (String × DataW Unit) := [("warehouse/civil.lengths", Rows.laid_warehouse_civil_lengths), ("warehouse/token.words", Rows.laid_warehouse_token_words), ("warehouse/token.symbols", Rows.laid_warehouse_token_symbols)]

theorem door_met (os : Os) (args : Array Value) : laidMetH Tryd.prog laidL ((World.doorLaid Tryd.prog 49 os).forCall (fun _ _ => 0) ⟨#[], args, []⟩).memory :=
  laidMetH_of_parts3 (fuel := 8) (laidMet_of_run' 8 (by kernel_rfl) (by kernel_rfl)) (by kernel_rfl) (by kernel_rfl)
theorem door_shaped (os : Os) (args : Array Value) : ((World.doorLaid Tryd.prog 49 os).forCall (fun _ _ => 0) ⟨#[], args, []⟩).Shaped Tryd.prog :=
  World.shaped_of_RefB (by kernel_rfl) (by kernel_rfl)

theorem strVar_of {W : World} {nm : String} {g : Nat} {cs : Array Value} {f : Nat} {p : List MemPlace} {held : Bool} (ds : List Bytes)
    (hg : Tryd.prog.globalNamed nm = some g) (hv : W.var? Tryd.prog nm = some cs)
    (hd : DataW.trod (fun _ => ()) Tryd.prog W 0 (fun _ => true) held f 30 cs.toList = some (.slice (ds.map fun l => .lit (.string l)) [], p)) (hne : 0 < ds.length) : StrVar W g ds := by
  obtain ⟨a, cap, hcs, hl, hel⟩ := open_row Tryd.underlying30 cStr hd
  have read : ∀ i (h : i < ds.length), W.cell? (a.add i) = some (str ds[i]) := fun i h => by
    obtain ⟨v, n, q, hc, hr⟩ := hel i (.lit (.string ds[i])) (by simp [h])
    obtain ⟨s, e1, e2, _⟩ := DataW.trod_string Tryd.underlying9 hr
    obtain rfl : v = .string s := by simpa using e1
    have e3 : ds[i] = s.data.toList := by simpa using (congrArg Prod.fst e2)
    rw [hc, e3]
  have h0 := read 0 hne
  obtain ⟨b, off, spot⟩ := a
  have hspot : spot = none := by simpa [Addr.add] using World.cell?_spot h0
  subst hspot
  have hcell : W.cell? ⟨g, 0, none⟩ = some (.slice (some ⟨b, off, none⟩) ds.length cap) := by
    have := World.var?_cell hg hv 0
    rw [Array.eq_one_of_toList hcs] at this
    simpa using this
  refine ⟨World.block_lt_of_cell? W _ hcell, b, off, cap, World.block_lt_of_cell? W _ h0, hcell, fun j hj => ?_⟩
  have := read j hj
  rw [List.getD_eq_getElem?_getD, List.getElem?_eq_getElem hj]
  cases j with
  | zero => simpa [Addr.add] using this
  | succ j => simpa [Addr.add] using this

theorem lenVar_of {W : World} {cs : Array Value} {f : Nat} {p : List MemPlace} {held : Bool} (hv : W.var? Tryd.prog "warehouse/civil.lengths" = some cs)
    (hd : DataW.trod (fun _ => ()) Tryd.prog W 0 (fun _ => true) held f 99 cs.toList = some (.agg (monthL.map fun n => .lit (.int .i64 n)), p)) : LenVar W 2 := by
  obtain ⟨xs, m, rfl, hx, hlen, hn, hel⟩ := DataW.trod_array u99 hd
  have c99 : Tryd.prog.cellsOf 99 = 12 := by kernel_rfl
  rw [c99] at hlen
  simp only [Prod.mk.injEq, DataW.agg.injEq] at hx
  have read : ∀ j, j < 12 → W.cell? ⟨2, j, none⟩ = some (.int .i64 (monthL.getD j 0)) := fun j hj => by
    have h := hel j hj
    rw [cInt] at h
    have hj' : j < xs.length := by omega
    have hc : j < cs.toList.length := by omega
    rw [List.getElem?_eq_getElem hj'] at h
    obtain ⟨n, e1, e2, _⟩ := DataW.trod_int Tryd.underlying3 h
    have h3 : cs[j]? = some (.int .i64 n) := by
      have := congrArg (·[0]?) e1
      simp at this
      simpa using this
    have h4 : monthL.getD j 0 = n := by
      have h5 := congrArg (·[j]?) hx.1
      simp only [List.getElem?_map, List.getElem?_eq_getElem hj', e2, Option.map_some] at h5
      rw [List.getD_eq_getElem?_getD]
      cases hm : monthL[j]? with
      | none => rw [hm] at h5; cases h5
      | some k => rw [hm] at h5; simpa using h5
    have := World.var?_cell gL hv j
    rw [h4, this]
    exact h3
  exact ⟨World.block_lt_of_cell? W _ (read 0 (by decide)), read⟩

theorem glob_of_laid {W : World} (h : laidMetH Tryd.prog laidL W) : Glob W := by
  rw [MakeChecks.laidMetH_plain _ _ _ (by kernel_rfl)] at h
  obtain ⟨ps, ⟨g2, t2, cs2, f2, p2, q2, hg2, ht2, hv2, hd2, ⟨g0, t0, cs0, f0, p0, q0, hg0, ht0, hv0, hd0, ⟨g1, t1, cs1, f1, p1, q1, hg1, ht1, hv1, hd1, _, _⟩, _⟩, _⟩, _, _⟩ := h
  obtain rfl := Option.some.inj (gL.symm.trans hg2)
  obtain rfl := Option.some.inj (gW.symm.trans hg0)
  obtain rfl := Option.some.inj (gS.symm.trans hg1)
  obtain rfl := Option.some.inj (tL.symm.trans ht2)
  obtain rfl := Option.some.inj (tW.symm.trans ht0)
  obtain rfl := Option.some.inj (tS.symm.trans ht1)
  exact ⟨lenVar_of hv2 hd2, strVar_of wordsS hg0 hv0 hd0 (by decide), strVar_of symbolsS hg1 hv1 hd1 (by decide)⟩
end Step
end Go.Proofs.YtedjahbieheeoaaDoor
