/- What the rows' condition on the laid variables gives a walk; a start that meets it. A slice of numbers as it comes in. The seat of the expressions' texts: what the rows' condition gives a walk; a start that meets it. -/
import Derived.Test.YtlfedcbihbigoaaGreatDoorRows
import Derived.Test.YtlfedcbihbigoaaGreatDoorBase0
import Derived.KernelRfl
import Derived.ProofKit
import Derived.LaidMore
import Derived.OpenShut
import Derived.ShutString
import Derived.MakeChecks
import Derived.Stop.Joined
import Derived.HandedShaped
import Derived.Test.YtlfedcbihbigoaaGreatDoorBaseA
import Derived.Test.YtlfedcbihbigoaaGreatDoorJoiRv
import Derived.Shelf.Vars
import Derived.LaidSub
import Derived.Lay
import Derived.Lib.LaidTab
set_option linter.unusedVariables false
set_option linter.unusedSimpArgs false
namespace Go.Proofs.YtlfedcbihbigoaaGreatDoor
open Go.ChangeShapes Go.WideShapes Go.ChangeAt Go.RowKit
open Go.ChangeMaps (open_string shut_string)
namespace Step

theorem own : ownKnob Tryz.prog.godebug = none := by kernel_rfl
theorem laidOut : laidOutB Tryz.prog = true := by kernel_rfl
theorem gW : Tryz.prog.globalNamed "warehouse/token.words" = some 1 := by kernel_rfl
theorem gS : Tryz.prog.globalNamed "warehouse/token.symbols" = some 0 := by kernel_rfl
theorem gL : Tryz.prog.globalNamed "warehouse/civil.lengths" = some 3 := by kernel_rfl
theorem tW : (Tryz.prog.globals[ 1 ]?).map (·.type) = some 46 := by kernel_rfl
theorem tS : (Tryz.prog.globals[ 0 ]?).map (·.type) = some 46 := by kernel_rfl
theorem tL : (Tryz.prog.globals[ 3 ]?).map (·.type) = some 196 := by kernel_rfl
theorem u99 : Tryz.prog.underlying 196 = some (.array 12 3) := by kernel_rfl
theorem cStr : Tryz.prog.cellsOf 9 = 1 := by kernel_rfl
theorem cInt : Tryz.prog.cellsOf 3 = 1 := by kernel_rfl

theorem strVar_of {W : World} {nm : String} {g : Nat} {cs : Array Value} {f : Nat} {p : List MemPlace} {held : Bool} (ds : List Bytes)
    (hg : Tryz.prog.globalNamed nm = some g) (hv : W.var? Tryz.prog nm = some cs)
    (hd : DataW.trod (fun _ => ()) Tryz.prog W 0 (fun _ => true) held f 46 cs.toList = some (.slice (ds.map fun l => .lit (.string l)) [], p)) (hne : 0 < ds.length) : StrVar W g ds := by
  obtain ⟨a, cap, hcs, hl, hel⟩ := open_row Tryz.underlying46 cStr hd
  have read : ∀ i (h : i < ds.length), W.cell? (a.add i) = some (str ds[i]) := fun i h => by
    obtain ⟨v, n, q, hc, hr⟩ := hel i (.lit (.string ds[i])) (by simp [h])
    obtain ⟨s, e1, e2, _⟩ := DataW.trod_string Tryz.underlying9 hr
    obtain rfl : v = .string s := by simpa using e1
    have e3 : ds[i] = s.data.toList := by simpa using (congrArg Prod.fst e2)
    rw [hc, e3]
  have h0 := read 0 hne
  obtain ⟨b, off, spot⟩ := a
  have hspot : spot = none := by simpa [Addr.add] using World.cell?_spot h0
  subst hspot
  have hcell : W.cell? ⟨g, 0, none⟩ = some (.slice (some ⟨b, off, none⟩) ds.length cap) := by
    have := World.var?_cell hg hv 0
    rw [Array.eq_one_of_toList hcs] at this
    simpa using this
  refine ⟨World.block_lt_of_cell? W _ hcell, b, off, cap, World.block_lt_of_cell? W _ h0, hcell, fun j hj => ?_⟩
  have := read j hj
  rw [List.getD_eq_getElem?_getD, List.getElem?_eq_getElem hj]
  cases j with
  | zero => simpa [Addr.add] using this
  | succ j => simpa [Addr.add] using this

theorem lenVar_of {W : World} {cs : Array Value} {f : Nat} {p : List MemPlace} {held : Bool} (hv : W.var? Tryz.prog "warehouse/civil.lengths" = some cs)
    (hd : DataW.trod (fun _ => ()) Tryz.prog W 0 (fun _ => true) held f 196 cs.toList = some (.agg (monthL.map fun n => .lit (.int .i64 n)), p)) : LenVar W 3 := by
  obtain ⟨xs, m, rfl, hx, hlen, hn, hel⟩ := DataW.trod_array u99 hd
  have c99 : Tryz.prog.cellsOf 196 = 12 := by kernel_rfl
  rw [c99] at hlen
  simp only [Prod.mk.injEq, DataW.agg.injEq] at hx
  have read : ∀ j, j < 12 → W.cell? ⟨3, j, none⟩ = some (.int .i64 (monthL.getD j 0)) := fun j hj => by
    have h := hel j hj
    rw [cInt] at h
    have hj' : j < xs.length := by omega
    have hc : j < cs.toList.length := by omega
    rw [List.getElem?_eq_getElem hj'] at h
    obtain ⟨n, e1, e2, _⟩ := DataW.trod_int Tryz.underlying3 h
    have h3 : cs[j]? = some (.int .i64 n) := by
      have := congrArg (·[0]?) e1
      simp at this
      simpa using this
    have h4 : monthL.getD j 0 = n := by
      have h5 := congrArg (·[j]?) hx.1
      simp only [List.getElem?_map, List.getElem?_eq_getElem hj', e2, Option.map_some] at h5
      rw [List.getD_eq_getElem?_getD]
      cases hm : monthL[j]? with
      | none => rw [hm] at h5; cases h5
      | some k => rw [hm] at h5; simpa using h5
    have := World.var?_cell gL hv j
    rw [h4, this]
    exact h3
  exact ⟨World.block_lt_of_cell? W _ (read 0 (by decide)), read⟩

/-- The wrap for a row whose condition is more than its data's, the world's shape kept. -/
theorem handed_and_shaped {H : Type} {enc : TypeId × Value → H} {a : Assume} {C : Checked} {os : Os} {f : FuncId} {fn : Func} {s : ChangeSpec} {conds : List PathCond} {apart fresh handsOn again : Bool} {X : World → Array Value → Prop}
    (hX : ∀ (w w' : World) (args : Array Value), w.heap = w'.heap → X w args → X w' args)
    (own : ownKnob C.prog.godebug = none) (started : os.Started) (noInit : C.prog.inits.idxOf? f = none) (hfn : C.prog.funcs[f]? = some fn)
    (witness : ∃ (w : World) (tape : Tape) (i : Input), w.os = os ∧ (w.forCall tape i).Shaped C.prog ∧ i.vars = [] ∧ Input.okWide C.prog (w.forCall tape i) .any w.heap.size f i ∧
      ((s.pre enc C.prog fn conds apart (w.forCall tape i).memory i.args ∧ X (w.forCall tape i).memory i.args) ∧ sizedMet enc C.prog fn (OpenSpec.ofChange s) apart (w.forCall tape i).memory i.args) ∧ a.holds C.prog (lone (Frame.enter C.prog f i.args .normal) [] (w.forCall tape i)))
    (contract : ∀ (W : World) (base : Nat) (args : Array Value) (ds gs : List (DataW H)) (before : List MemPlace),
      (∀ (j : Nat) t v, fn.params[j]? = some t → args[j]? = some v → Value.okWide C.prog W .any base t v) →
      DataW.Whole enc C.prog fn.params.toList s.vars apart W args.toList ds gs before → W.ShapedOpen C.prog → X W args →
      Calls C.prog f args W fun e W' => ∃ v, e = .returned v ∧ s.post enc C.prog fn apart fresh handsOn again W args v W') :
    ReturnsInHanded a C os f .any (fun w args => (s.pre enc C.prog fn conds apart w args ∧ X w args) ∧ sizedMet enc C.prog fn (OpenSpec.ofChange s) apart w args) (s.post enc C.prog fn apart fresh handsOn again) := by
  refine returnsInHanded_of_calls own started noInit witness ?_
  intro w tape i hos hshape hvars hok hpre hholds
  obtain ⟨_, _, _, fn2, hfn2, _, _, _, _, hval⟩ := hok
  obtain rfl : fn2 = fn := Option.some.inj (hfn2.symm.trans hfn)
  obtain ⟨⟨⟨ds, gs, before, hw, hc⟩, hx⟩, hz⟩ := hpre
  have hw2 := DataW.Whole.of_heap (w' := w.forCall tape i) (by rfl) hw
  refine (contract (w.forCall tape i) w.heap.size i.args ds gs before hval hw2 hshape (hX _ _ _ (by rfl) hx)).mono fun e W' ⟨v, he, hp⟩ => ?_
  subst he
  exact ChangeSpec.post_blind hp
end Step
end Go.Proofs.YtlfedcbihbigoaaGreatDoor

namespace Go.Proofs.YtlfedcbihbigoaaGreatDoor
open Go.ChangeShapes Go.WideShapes Go.ChangeAt Go.RowKit
open Go.ChangeMaps (open_string shut_string)
theorem Step.ints_of {H : Type} {enc : TypeId × Value → H} {W : World} {A : Option Addr} {len cap : Nat} {d : DataW H} {p : List MemPlace} {held : Bool}
    (h : DataW.Trod enc Tryz.prog W 0 (fun _ => true) held 22 (.slice A len cap) d p) : ∃ l : List Int, len = l.length ∧ IntsAt W A l := by
  obtain ⟨fuel, hf⟩ := h
  rcases open_ints Tryz.underlying22 Tryz.underlying3 (by kernel_rfl) hf with ⟨hcs, _⟩ | ⟨x, len', cap', zs, hcs, _, hl, hm, hz, _, hcell, hwz⟩
  · simp [Value.cells] at hcs
    obtain ⟨rfl, rfl, rfl⟩ := hcs
    exact ⟨[], rfl, .inl rfl⟩
  · simp [Value.cells] at hcs
    obtain ⟨rfl, rfl, rfl⟩ := hcs
    have hz' : zs.length = cap := by simpa using hz
    refine ⟨zs.take len, by simp; omega, ?_⟩
    by_cases h0 : cap = 0
    · exact .inl (List.eq_nil_of_length_eq_zero (by simp; omega))
    · refine .inr ⟨x, rfl, ?_, by simp; omega, fun k hk => ?_⟩
      · have := World.block_lt_of_cell? W _ (hcell 0 (by omega))
        simpa [Addr.add] using this
      · have hk' : k < len ∧ k < zs.length := by
          rw [List.length_take] at hk
          omega
        rw [hcell k hk'.2]
        simp [List.getD_eq_getElem?_getD, List.getElem?_take, hk'.1]
theorem Step.ints_len {W : World} {A : Option Addr} {l : List Int} (h : IntsAt W A l) : l.length ≤ maxLen := by
  rcases h with rfl | ⟨_, _, _, h, _⟩
  · simp
  · exact h
end Go.Proofs.YtlfedcbihbigoaaGreatDoor

namespace Go.Proofs.YtlfedcbihbigoaaGreatDoor
open Go.ChangeShapes Go.WideShapes Go.ChangeAt Go.RowKit
namespace Step
def laidZ : List (String × DataW Unit) := Rows.exprParsesRow.laid
theorem door_metZ (os : Os) (args : Array Value) : laidMetH Tryz.prog laidZ ((World.laidAll Tryz.prog os laidZ).forCall (fun _ _ => 0) ⟨#[], args, []⟩).memory := by
  rw [MakeChecks.laidMetH_plain _ _ _ (by kernel_rfl)]
  exact laidMet_laidAll args (by kernel_rfl) (by kernel_rfl)
theorem door_shapedZ (os : Os) (args : Array Value) : ((World.laidAll Tryz.prog os laidZ).forCall (fun _ _ => 0) ⟨#[], args, []⟩).Shaped Tryz.prog :=
  World.shaped_of_ZipB (by kernel_rfl) (by kernel_rfl)
theorem tPowZ : (Tryz.prog.globals[ 4 ]?).map (·.type) = some 199 := by kernel_rfl
theorem tab_of_Z {W : World} (h : laidMetH Tryz.prog laidZ W) : Lib.TabIs Tryz.prog W "internal/strconv.uint64pow10" .u64 Lib.pow10Tab := by
  have h2 := h.filter (fun x => x.1 == "internal/strconv.uint64pow10")
  have e : laidZ.filter (fun x => x.1 == "internal/strconv.uint64pow10") = [("internal/strconv.uint64pow10", Rows.laid_internal_strconv_uint64pow10)] := by
    simp [laidZ, Rows.exprParsesRow, List.filter]
  rw [e, MakeChecks.laidMetH_plain _ _ _ (by kernel_rfl)] at h2
  exact Lib.tabIs_of_head (n := 20) gPow tPowZ Tryz.underlying199 Tryz.underlying191 (by kernel_rfl) (by kernel_rfl) h2
theorem glob_of_Z {W : World} (h : laidMetH Tryz.prog laidZ W) : Glob W := by
  have h2 := h.filter (fun x => x.1 == "warehouse/civil.lengths" || x.1 == "warehouse/token.words" || x.1 == "warehouse/token.symbols")
  have e : laidZ.filter (fun x => x.1 == "warehouse/civil.lengths" || x.1 == "warehouse/token.words" || x.1 == "warehouse/token.symbols") = [("warehouse/civil.lengths", Rows.laid_warehouse_civil_lengths), ("warehouse/token.words", Rows.laid_warehouse_token_words), ("warehouse/token.symbols", Rows.laid_warehouse_token_symbols)] := by
    simp [laidZ, Rows.exprParsesRow, List.filter]
  rw [e, MakeChecks.laidMetH_plain _ _ _ (by kernel_rfl)] at h2
  obtain ⟨ps, ⟨g2, t2, cs2, f2, p2, q2, hg2, ht2, hv2, hd2, ⟨g0, t0, cs0, f0, p0, q0, hg0, ht0, hv0, hd0, ⟨g1, t1, cs1, f1, p1, q1, hg1, ht1, hv1, hd1, _, _⟩, _⟩, _⟩, _, _⟩ := h2
  obtain rfl := Option.some.inj (gL.symm.trans hg2)
  obtain rfl := Option.some.inj (gW.symm.trans hg0)
  obtain rfl := Option.some.inj (gS.symm.trans hg1)
  obtain rfl := Option.some.inj (tL.symm.trans ht2)
  obtain rfl := Option.some.inj (tW.symm.trans ht0)
  obtain rfl := Option.some.inj (tS.symm.trans ht1)
  exact ⟨lenVar_of hv2 hd2, strVar_of wordsS hg0 hv0 hd0 (by decide), strVar_of symbolsS hg1 hv1 hd1 (by decide)⟩
theorem globZ_of {W : World} (h : laidMetH Tryz.prog laidZ W) (hs : W.ShapedOpen Tryz.prog) : GlobJ W :=
  ⟨glob_of_Z h, cell_of_shapedOpen_int (P := Tryz.prog) (g := 2) (t := 3) (zero := #[.int .i64 0]) hs (of_decide_eq_true (by kernel_rfl)) (by kernel_rfl) rfl (by kernel_rfl) (by kernel_rfl) Tryz.underlying3, tab_of_Z h⟩
end Step
end Go.Proofs.YtlfedcbihbigoaaGreatDoor
