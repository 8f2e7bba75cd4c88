/- What the rows' condition on the laid variables gives a walk; a start that meets it. A slice of numbers as it comes in. The seat of the expressions' texts: what the rows' condition gives a walk; a start that meets it. What a slice of nodes, and a node, among the arguments read as. The Expr seat: what the rows' condition gives a walk; a start that meets it. What a slice of strings, of items, of steps, and a step, among the arguments read as. The wrap for a row whose arguments are bounded by the memory's size; what a slice of numbers weighs; what the laid table of the fields of steps gives. -/
import Derived.Test.YtmbeeefkpgfgmaaGreatDoorRows
import Derived.Test.YtmbeeefkpgfgmaaGreatDoorPq01
import Derived.KernelRfl
import Derived.ProofKit
import Derived.LaidMore
import Derived.OpenShut
import Derived.ShutString
import Derived.MakeChecks
import Derived.Stop.Joined
import Derived.HandedShaped
import Derived.Test.YtmbeeefkpgfgmaaGreatDoorPq05
import Derived.Shelf.Vars
import Derived.LaidSub
import Derived.Lay
import Derived.Lib.LaidTab
import Derived.Test.YtmbeeefkpgfgmaaGreatDoorPq06
import Derived.Deep.Slices
import Derived.Test.YtmbeeefkpgfgmaaGreatDoorPq08
import Derived.Test.YtmbeeefkpgfgmaaGreatDoorPq33
set_option linter.unusedVariables false
set_option linter.unusedSimpArgs false
namespace Go.Proofs.YtmbeeefkpgfgmaaGreatDoor
open Go.ChangeShapes Go.WideShapes Go.ChangeAt Go.RowKit
open Go.ChangeMaps (open_string shut_string)
namespace Step

theorem own : ownKnob Tryz.prog.godebug = none := by kernel_rfl
theorem laidOut : laidOutB Tryz.prog = true := by kernel_rfl
theorem gW : Tryz.prog.globalNamed "warehouse/token.words" = some 2 := by kernel_rfl
theorem tW : (Tryz.prog.globals[ 2 ]?).map (·.type) = some 23 := by kernel_rfl
theorem cStr : Tryz.prog.cellsOf 9 = 1 := by kernel_rfl
theorem cInt : Tryz.prog.cellsOf 3 = 1 := by kernel_rfl

theorem strVar_of {W : World} {nm : String} {g : Nat} {cs : Array Value} {f : Nat} {p : List MemPlace} {held : Bool} (ds : List Bytes)
    (hg : Tryz.prog.globalNamed nm = some g) (hv : W.var? Tryz.prog nm = some cs)
    (hd : DataW.trod (fun _ => ()) Tryz.prog W 0 (fun _ => true) held f 23 cs.toList = some (.slice (ds.map fun l => .lit (.string l)) [], p)) (hne : 0 < ds.length) : StrVar W g ds := by
  obtain ⟨a, cap, hcs, hl, hel⟩ := open_row Tryz.underlying23 cStr hd
  have read : ∀ i (h : i < ds.length), W.cell? (a.add i) = some (str ds[i]) := fun i h => by
    obtain ⟨v, n, q, hc, hr⟩ := hel i (.lit (.string ds[i])) (by simp [h])
    obtain ⟨s, e1, e2, _⟩ := DataW.trod_string Tryz.underlying9 hr
    obtain rfl : v = .string s := by simpa using e1
    have e3 : ds[i] = s.data.toList := by simpa using (congrArg Prod.fst e2)
    rw [hc, e3]
  have h0 := read 0 hne
  obtain ⟨b, off, spot⟩ := a
  have hspot : spot = none := by simpa [Addr.add] using World.cell?_spot h0
  subst hspot
  have hcell : W.cell? ⟨g, 0, none⟩ = some (.slice (some ⟨b, off, none⟩) ds.length cap) := by
    have := World.var?_cell hg hv 0
    rw [Array.eq_one_of_toList hcs] at this
    simpa using this
  refine ⟨World.block_lt_of_cell? W _ hcell, b, off, cap, World.block_lt_of_cell? W _ h0, hcell, fun j hj => ?_⟩
  have := read j hj
  rw [List.getD_eq_getElem?_getD, List.getElem?_eq_getElem hj]
  cases j with
  | zero => simpa [Addr.add] using this
  | succ j => simpa [Addr.add] using this

end Step
end Go.Proofs.YtmbeeefkpgfgmaaGreatDoor

namespace Go.Proofs.YtmbeeefkpgfgmaaGreatDoor
open Go.ChangeShapes Go.WideShapes Go.ChangeAt Go.RowKit
open Go.ChangeMaps (open_string shut_string)
theorem Step.ints_of {H : Type} {enc : TypeId × Value → H} {W : World} {A : Option Addr} {len cap : Nat} {d : DataW H} {p : List MemPlace} {held : Bool}
    (h : DataW.Trod enc Tryz.prog W 0 (fun _ => true) held 28 (.slice A len cap) d p) : ∃ l : List Int, len = l.length ∧ IntsAt W A l := by
  obtain ⟨fuel, hf⟩ := h
  rcases open_ints Tryz.underlying28 Tryz.underlying3 (by kernel_rfl) hf with ⟨hcs, _⟩ | ⟨x, len', cap', zs, hcs, _, hl, hm, hz, _, hcell, hwz⟩
  · simp [Value.cells] at hcs
    obtain ⟨rfl, rfl, rfl⟩ := hcs
    exact ⟨[], rfl, .inl rfl⟩
  · simp [Value.cells] at hcs
    obtain ⟨rfl, rfl, rfl⟩ := hcs
    have hz' : zs.length = cap := by simpa using hz
    refine ⟨zs.take len, by simp; omega, ?_⟩
    by_cases h0 : cap = 0
    · exact .inl (List.eq_nil_of_length_eq_zero (by simp; omega))
    · refine .inr ⟨x, rfl, ?_, by simp; omega, fun k hk => ?_⟩
      · have := World.block_lt_of_cell? W _ (hcell 0 (by omega))
        simpa [Addr.add] using this
      · have hk' : k < len ∧ k < zs.length := by
          rw [List.length_take] at hk
          omega
        rw [hcell k hk'.2]
        simp [List.getD_eq_getElem?_getD, List.getElem?_take, hk'.1]
end Go.Proofs.YtmbeeefkpgfgmaaGreatDoor

namespace Go.Proofs.YtmbeeefkpgfgmaaGreatDoor
open Go.ChangeShapes Go.WideShapes Go.ChangeAt Go.RowKit
namespace Step
end Step
end Go.Proofs.YtmbeeefkpgfgmaaGreatDoor
namespace Go.Proofs.YtmbeeefkpgfgmaaGreatDoor
open Go.ChangeShapes Go.WideShapes Go.ChangeAt Go.RowKit
theorem nd_addr_add (g off i : Nat) : (⟨g, off, none⟩ : Addr).add i = ⟨g, off + i, none⟩ := by unfold Addr.add; split <;> simp_all
theorem Step.cNd : Tryz.prog.cellsOf 116 = 6 := by kernel_rfl
theorem Step.cVal : Tryz.prog.cellsOf 114 = 3 := by kernel_rfl
set_option maxRecDepth 100000 in
theorem Step.nd_of_cells {H : Type} {enc : TypeId × Value → H} {W : World} {held : Bool} {fuel : Nat} {cs : List Value} {x : DataW H × List MemPlace} (hl : cs.length = 6)
    (h : DataW.trod enc Tryz.prog W 0 (fun _ => true) held fuel 116 cs = some x) : ∃ n : Nd, cs = n.cells ∧ n.name.length ≤ maxLen ∧ n.val.text.length ≤ maxLen ∧ (Lit.int IntKind.i64 n.op).wf = true ∧ (Lit.int IntKind.i64 n.val.kind).wf = true ∧ (Lit.int IntKind.i64 n.val.num).wf = true ∧ (Lit.int IntKind.i64 n.arity).wf = true := by
  obtain ⟨ys, k, _, _, _, hyl, hg⟩ := DataW.trod_struct Tryz.underlying116 h
  match cs, hl with
  | [c0, c1, c2, c3, c4, c5], _ =>
    match ys, hyl with
    | [y0, y1, y2, y3], _ =>
      have g0 : DataW.trod enc Tryz.prog W 0 (fun _ => true) held k 3 (([c0, c1, c2, c3, c4, c5].drop 0).take (Tryz.prog.cellsOf 3)) = some y0 := hg 0 _ rfl
      have g1 : DataW.trod enc Tryz.prog W 0 (fun _ => true) held k 114 (([c0, c1, c2, c3, c4, c5].drop 1).take (Tryz.prog.cellsOf 114)) = some y1 := hg 1 _ rfl
      have g2 : DataW.trod enc Tryz.prog W 0 (fun _ => true) held k 9 (([c0, c1, c2, c3, c4, c5].drop 4).take (Tryz.prog.cellsOf 9)) = some y2 := hg 2 _ rfl
      have g3 : DataW.trod enc Tryz.prog W 0 (fun _ => true) held k 3 (([c0, c1, c2, c3, c4, c5].drop 5).take (Tryz.prog.cellsOf 3)) = some y3 := hg 3 _ rfl
      rw [Step.cInt] at g0 g3
      rw [Step.cStr] at g2
      rw [Step.cVal] at g1
      obtain ⟨zs, k2, _, _, _, hzl, hv⟩ := DataW.trod_struct Tryz.underlying114 g1
      match zs, hzl with
      | [z0, z1, z2], _ =>
        have v0 : DataW.trod enc Tryz.prog W 0 (fun _ => true) held k2 3 (([c1, c2, c3].drop 0).take (Tryz.prog.cellsOf 3)) = some z0 := hv 0 _ rfl
        have v1 : DataW.trod enc Tryz.prog W 0 (fun _ => true) held k2 3 (([c1, c2, c3].drop 1).take (Tryz.prog.cellsOf 3)) = some z1 := hv 1 _ rfl
        have v2 : DataW.trod enc Tryz.prog W 0 (fun _ => true) held k2 9 (([c1, c2, c3].drop 2).take (Tryz.prog.cellsOf 9)) = some z2 := hv 2 _ rfl
        rw [Step.cInt] at v0 v1
        rw [Step.cStr] at v2
        obtain ⟨n0, e0, _, f0⟩ := DataW.trod_int Tryz.underlying3 g0
        obtain ⟨n1, e1, _, f1⟩ := DataW.trod_int Tryz.underlying3 v0
        obtain ⟨n2, e2, _, f2⟩ := DataW.trod_int Tryz.underlying3 v1
        obtain ⟨s3, e3, _, f3⟩ := DataW.trod_string Tryz.underlying9 v2
        obtain ⟨s4, e4, _, f4⟩ := DataW.trod_string Tryz.underlying9 g2
        obtain ⟨n5, e5, _, f5⟩ := DataW.trod_int Tryz.underlying3 g3
        simp at e0 e1 e2 e3 e4 e5
        subst e0 e1 e2 e3 e4 e5
        exact ⟨⟨n0, ⟨n1, n2, bs s3⟩, bs s4, n5⟩, by show _ = [_, _, _, Value.string ⟨(bs s3).toArray⟩, Value.string ⟨(bs s4).toArray⟩, _]; rw [mk_bs, mk_bs], f4, f3, f0, f1, f2, f5⟩
set_option maxRecDepth 100000 in
theorem Step.nds_of {H : Type} {enc : TypeId × Value → H} {W : World} {A : Option Addr} {len cap : Nat} {d : DataW H} {p : List MemPlace} {held : Bool}
    (h : DataW.Trod enc Tryz.prog W 0 (fun _ => true) held 25 (.slice A len cap) d p) : ∃ es : List Nd, len = es.length ∧ NdsAt W A es ∧ NamesOk es ∧ es.length ≤ cap := by
  obtain ⟨fuel, hf⟩ := h
  rcases Go.Deep.open_slice Tryz.underlying25 hf with ⟨hcs, _⟩ | ⟨a, len', cap', m, n, D, Pl, hcs, _, hl, _, hm, _, hx⟩
  · simp [Value.cells] at hcs
    obtain ⟨rfl, rfl, rfl⟩ := hcs
    exact ⟨[], rfl, .inl rfl, fun j h => (List.not_mem_nil h).elim, Nat.zero_le _⟩
  · simp [Value.cells] at hcs
    obtain ⟨rfl, rfl, rfl⟩ := hcs
    rw [Step.cNd] at hx
    have hm' : m = cap := by simpa using hm
    subst hm'
    have one : ∀ i, i < m → ∃ n : Nd, (∀ j, j < 6 → W.cell? ((a.add (i * 6)).add j) = n.cells[j]?) ∧ n.name.length ≤ maxLen := by
      intro i hi
      obtain ⟨cs, hc, ht⟩ := hx i hi
      obtain ⟨_, hcl, hat⟩ := World.cells?_some hc
      obtain ⟨n, rfl, hn, _⟩ := Step.nd_of_cells hcl ht
      exact ⟨n, fun j hj => hat j hj, hn⟩
    by_cases h0 : len = 0
    · subst h0
      exact ⟨[], rfl, .inl rfl, fun j h => (List.not_mem_nil h).elim, Nat.zero_le _⟩
    · obtain ⟨f, hf2⟩ : ∃ f : Nat → Nd, ∀ i, i < m → (∀ j, j < 6 → W.cell? ((a.add (i * 6)).add j) = (f i).cells[j]?) ∧ (f i).name.length ≤ maxLen :=
        ⟨fun i => if h : i < m then (one i h).choose else ⟨0, vl0, [], 0⟩, fun i h => by simp only [dif_pos h]; exact (one i h).choose_spec⟩
      obtain ⟨g, off, spot⟩ := a
      have hc0 := (hf2 0 (by omega)).1 0 (by omega)
      have hc1 : W.cell? ((⟨g, off, spot⟩ : Addr).add 0) = some (.int .i64 (f 0).op) := by simpa [Addr.add, Nd.cells] using hc0
      have hspot : spot = none := by simpa [Addr.add] using World.cell?_spot hc1
      subst hspot
      refine ⟨(List.range len).map f, by simp, .inr ⟨g, off, rfl, ?_, fun j u hu => ?_⟩, fun n hn => ?_, by simpa using hl⟩
      · have := World.block_lt_of_cell? W _ hc1
        simpa [Addr.add] using this
      · have hj : j < len * 6 := by
          rcases Nat.lt_or_ge j (ndCells ((List.range len).map f)).length with h | h
          · rw [ndCells_len] at h; simpa using h
          · rw [List.getElem?_eq_none h] at hu; cases hu
        have hq : j / 6 < len := by omega
        have h6 := (hf2 (j / 6) (by omega)).1 (j % 6) (by omega)
        rw [nd_addr_add, nd_addr_add, show off + j / 6 * 6 + j % 6 = off + j by omega] at h6
        rw [h6, ← hu]
        have hgt := ndCells_get ((List.range len).map f) (j / 6) (by simpa using hq)
        simp only [List.getElem_map, List.getElem_range] at hgt
        obtain ⟨h1, h2, h3, h4, h5, h7⟩ := hgt
        have hr : j % 6 < 6 := by omega
        have hj2 : j = j / 6 * 6 + j % 6 := by omega
        generalize j % 6 = r at *
        generalize j / 6 = q at *
        subst hj2
        match r, hr with
        | 0, _ => exact h1.symm
        | 1, _ => exact h2.symm
        | 2, _ => exact h3.symm
        | 3, _ => exact h4.symm
        | 4, _ => exact h5.symm
        | 5, _ => exact h7.symm
      · simp only [List.mem_map, List.mem_range] at hn
        obtain ⟨i, hi, rfl⟩ := hn
        exact (hf2 i (by omega)).2
end Go.Proofs.YtmbeeefkpgfgmaaGreatDoor

namespace Go.Proofs.YtmbeeefkpgfgmaaGreatDoor
open Go.ChangeShapes Go.WideShapes Go.ChangeAt Go.RowKit
namespace Step
end Step
end Go.Proofs.YtmbeeefkpgfgmaaGreatDoor
namespace Go.Proofs.YtmbeeefkpgfgmaaGreatDoor
open Go.ChangeShapes Go.WideShapes Go.ChangeAt Go.RowKit
theorem Step.cIt : Tryz.prog.cellsOf 61 = 5 := by kernel_rfl
theorem Step.cSt : Tryz.prog.cellsOf 27 = 6 := by kernel_rfl
theorem Step.cStrs : Tryz.prog.cellsOf 23 = 1 := by kernel_rfl
theorem Step.cNds : Tryz.prog.cellsOf 25 = 1 := by kernel_rfl
theorem Step.cIts : Tryz.prog.cellsOf 24 = 1 := by kernel_rfl
theorem pick_all {α : Type} (z : α) {m : Nat} {P : Nat → α → Prop} (h : ∀ i, i < m → ∃ x, P i x) : ∃ f : Nat → α, ∀ i, i < m → P i (f i) :=
  ⟨fun i => if h' : i < m then (h i h').choose else z, fun i h' => by simp only [dif_pos h']; exact (h i h').choose_spec⟩
theorem addr_flat {W : World} {a : Addr} {v : Value} (h : W.cell? (a.add 0) = some v) : ∃ g off, a = ⟨g, off, none⟩ ∧ g < W.heap.size := by
  obtain ⟨g, off, spot⟩ := a
  have hspot : spot = none := by simpa [Addr.add] using World.cell?_spot h
  subst hspot
  exact ⟨g, off, rfl, by have := World.block_lt_of_cell? W _ h; simpa [Addr.add] using this⟩
set_option maxRecDepth 100000 in
theorem Step.strs_of {H : Type} {enc : TypeId × Value → H} {W : World} {c0 : Value} {fuel : Nat} {x : DataW H × List MemPlace} {held : Bool}
    (h : DataW.trod enc Tryz.prog W 0 (fun _ => true) held fuel 23 [c0] = some x) : ∃ (A : Option Addr) (c : Nat) (l : List Bytes), c0 = .slice A l.length c ∧ StrsAt W A l ∧ l.length ≤ c ∧ l.length ≤ maxLen := by
  rcases Go.Deep.open_slice Tryz.underlying23 h with ⟨hcs, _⟩ | ⟨a, len, cap, m, n, D, Pl, hcs, _, hl, hcm, hm, _, hx⟩
  · simp at hcs
    exact ⟨none, 0, [], hcs, .inl rfl, Nat.zero_le _, Nat.zero_le _⟩
  · simp at hcs
    rw [Step.cStr] at hx
    have hm' : m = cap := by simpa using hm
    subst hm'
    have one : ∀ i, i < m → ∃ s : Bytes, W.cell? ((a.add (i * 1)).add 0) = some (str s) := by
      intro i hi
      obtain ⟨cs, hc, ht⟩ := hx i hi
      obtain ⟨_, hcl, hat⟩ := World.cells?_some hc
      match cs, hcl with
      | [v], _ =>
        obtain ⟨s, e, _⟩ := DataW.trod_string Tryz.underlying9 ht
        simp at e
        subst e
        exact ⟨bs s, by have := hat 0 (by omega); rw [this]; show some (Value.string s) = some (Value.string ⟨(bs s).toArray⟩); rw [mk_bs]⟩
    by_cases h0 : len = 0
    · subst h0
      exact ⟨some a, m, [], hcs, .inl rfl, Nat.zero_le _, Nat.zero_le _⟩
    · obtain ⟨f, hf⟩ := pick_all [] one
      have hlm : len ≤ m := by simpa using hl
      have h00 := hf 0 (by omega)
      obtain ⟨g, off, rfl, hg⟩ := addr_flat (a := a) (by simpa [Addr.add] using h00)
      refine ⟨some ⟨g, off, none⟩, m, (List.range len).map f, by simpa using hcs, .inr ⟨g, off, rfl, hg, fun i hi => ?_⟩, by simpa using hlm, by simp; omega⟩
      have hi' : i < len := by simpa using hi
      have := hf i (by omega)
      rw [nd_addr_add, nd_addr_add] at this
      simpa using this
set_option maxRecDepth 100000 in
theorem Step.nds_cell {H : Type} {enc : TypeId × Value → H} {W : World} {c0 : Value} {fuel : Nat} {x : DataW H × List MemPlace} {held : Bool}
    (h : DataW.trod enc Tryz.prog W 0 (fun _ => true) held fuel 25 [c0] = some x) : ∃ (A : Option Addr) (c : Nat) (es : List Nd), c0 = .slice A es.length c ∧ NdsAt W A es ∧ NamesOk es := by
  have hs : ∃ A n c, c0 = .slice A n c := by
    rcases Go.Deep.open_slice Tryz.underlying25 h with ⟨hcs, _⟩ | ⟨a, len, cap, m, n, D, Pl, hcs, _⟩
    · simp at hcs; exact ⟨_, _, _, hcs⟩
    · simp at hcs; exact ⟨_, _, _, hcs⟩
  obtain ⟨A, n, c, rfl⟩ := hs
  obtain ⟨d, p⟩ := x
  obtain ⟨es, rfl, h1, h2, _⟩ := Step.nds_of (W := W) (A := A) (len := n) (cap := c) (d := d) (p := p) ⟨fuel, h⟩
  exact ⟨A, c, es, rfl, h1, h2⟩
set_option maxRecDepth 100000 in
theorem Step.it_of_cells {H : Type} {enc : TypeId × Value → H} {W : World} {held : Bool} {fuel : Nat} {cs : List Value} {x : DataW H × List MemPlace} (hl : cs.length = 5)
    (h : DataW.trod enc Tryz.prog W 0 (fun _ => true) held fuel 61 cs = some x) : ∃ (y : It) (E : Option Addr) (ec : Nat), cs = [str y.name, .int .i64 y.fn, str y.col, .int .i64 y.num, .slice E y.expr.length ec] ∧ NdsAt W E y.expr ∧ NamesOk y.expr := by
  obtain ⟨ys, k, _, _, _, hyl, hg⟩ := DataW.trod_struct Tryz.underlying61 h
  match cs, hl with
  | [c0, c1, c2, c3, c4], _ =>
    match ys, hyl with
    | [y0, y1, y2, y3, y4], _ =>
      have g0 : DataW.trod enc Tryz.prog W 0 (fun _ => true) held k 9 (([c0, c1, c2, c3, c4].drop 0).take (Tryz.prog.cellsOf 9)) = some y0 := hg 0 _ rfl
      have g1 : DataW.trod enc Tryz.prog W 0 (fun _ => true) held k 3 (([c0, c1, c2, c3, c4].drop 1).take (Tryz.prog.cellsOf 3)) = some y1 := hg 1 _ rfl
      have g2 : DataW.trod enc Tryz.prog W 0 (fun _ => true) held k 9 (([c0, c1, c2, c3, c4].drop 2).take (Tryz.prog.cellsOf 9)) = some y2 := hg 2 _ rfl
      have g3 : DataW.trod enc Tryz.prog W 0 (fun _ => true) held k 3 (([c0, c1, c2, c3, c4].drop 3).take (Tryz.prog.cellsOf 3)) = some y3 := hg 3 _ rfl
      have g4 : DataW.trod enc Tryz.prog W 0 (fun _ => true) held k 25 (([c0, c1, c2, c3, c4].drop 4).take (Tryz.prog.cellsOf 25)) = some y4 := hg 4 _ rfl
      rw [Step.cInt] at g1 g3
      rw [Step.cStr] at g0 g2
      rw [Step.cNds] at g4
      obtain ⟨s0, e0, _, f0⟩ := DataW.trod_string Tryz.underlying9 g0
      obtain ⟨n1, e1, _, f1⟩ := DataW.trod_int Tryz.underlying3 g1
      obtain ⟨s2, e2, _, f2⟩ := DataW.trod_string Tryz.underlying9 g2
      obtain ⟨n3, e3, _, f3⟩ := DataW.trod_int Tryz.underlying3 g3
      obtain ⟨E, ec, es, e4, q1, q2⟩ := Step.nds_cell (c0 := c4) g4
      simp at e0 e1 e2 e3
      subst e0 e1 e2 e3 e4
      exact ⟨⟨bs s0, n1, bs s2, n3, es⟩, E, ec, by show _ = [Value.string ⟨(bs s0).toArray⟩, _, Value.string ⟨(bs s2).toArray⟩, _, _]; rw [mk_bs, mk_bs], q1, q2⟩
set_option maxRecDepth 100000 in
theorem Step.its_of {H : Type} {enc : TypeId × Value → H} {W : World} {c0 : Value} {fuel : Nat} {x : DataW H × List MemPlace} {held : Bool}
    (h : DataW.trod enc Tryz.prog W 0 (fun _ => true) held fuel 24 [c0] = some x) : ∃ (A : Option Addr) (c : Nat) (l : List It), c0 = .slice A l.length c ∧ ItsAt W A l ∧ l.length ≤ c ∧ ∀ y ∈ l, NamesOk y.expr := by
  rcases Go.Deep.open_slice Tryz.underlying24 h with ⟨hcs, _⟩ | ⟨a, len, cap, m, n, D, Pl, hcs, _, hl, hcm, hm, _, hx⟩
  · simp at hcs
    exact ⟨none, 0, [], hcs, .inl rfl, Nat.zero_le _, fun y h => (List.not_mem_nil h).elim⟩
  · simp at hcs
    rw [Step.cIt] at hx
    have hm' : m = cap := by simpa using hm
    subst hm'
    have one : ∀ i, i < m → ∃ y : It, (∃ (E : Option Addr) (ec : Nat), (∀ j, j < 5 → W.cell? ((a.add (i * 5)).add j) = [str y.name, .int .i64 y.fn, str y.col, .int .i64 y.num, .slice E y.expr.length ec][j]?) ∧ NdsAt W E y.expr) ∧ NamesOk y.expr := by
      intro i hi
      obtain ⟨cs, hc, ht⟩ := hx i hi
      obtain ⟨_, hcl, hat⟩ := World.cells?_some hc
      obtain ⟨y, E, ec, rfl, q1, q2⟩ := Step.it_of_cells hcl ht
      exact ⟨y, ⟨E, ec, fun j hj => hat j hj, q1⟩, q2⟩
    by_cases h0 : len = 0
    · subst h0
      exact ⟨some a, m, [], hcs, .inl rfl, Nat.zero_le _, fun y h => (List.not_mem_nil h).elim⟩
    · obtain ⟨f, hf⟩ := pick_all ⟨[], 0, [], 0, []⟩ one
      have hlm : len ≤ m := by simpa using hl
      obtain ⟨⟨E0, ec0, h00, _⟩, _⟩ := hf 0 (by omega)
      have h01 := h00 0 (by omega)
      obtain ⟨g, off, rfl, hg⟩ := addr_flat (a := a) (v := str (f 0).name) (by simpa [Addr.add] using h01)
      refine ⟨some ⟨g, off, none⟩, m, (List.range len).map f, by simpa using hcs, .inr ⟨g, off, rfl, hg, fun i hi => ?_⟩, by simpa using hlm, fun y hy => ?_⟩
      · have hi' : i < len := by simpa using hi
        obtain ⟨⟨E, ec, hc, hn⟩, _⟩ := hf i (by omega)
        simp only [List.getElem_map, List.getElem_range]
        have k0 := hc 0 (by omega)
        have k1 := hc 1 (by omega)
        have k2 := hc 2 (by omega)
        have k3 := hc 3 (by omega)
        have k4 := hc 4 (by omega)
        rw [nd_addr_add, nd_addr_add] at k0 k1 k2 k3 k4
        exact ⟨k0, k1, k2, k3, E, ec, k4, hn⟩
      · simp only [List.mem_map, List.mem_range] at hy
        obtain ⟨i, hi, rfl⟩ := hy
        exact (hf i (by omega)).2
structure Stp.raw (s : Stp) : Prop where
  src : s.src.length ≤ maxLen
  item : ∀ x ∈ s.items, NamesOk x.expr
  cond : NamesOk s.cond
set_option maxRecDepth 100000 in
theorem Step.st_of_cells {H : Type} {enc : TypeId × Value → H} {W : World} {held : Bool} {fuel : Nat} {cs : List Value} {x : DataW H × List MemPlace} (hl : cs.length = 6)
    (h : DataW.trod enc Tryz.prog W 0 (fun _ => true) held fuel 27 cs = some x) : ∃ (s : Stp) (a : Adr), cs = s.cells a ∧ s.At W a ∧ s.raw := by
  obtain ⟨ys, k, _, _, _, hyl, hg⟩ := DataW.trod_struct Tryz.underlying27 h
  match cs, hl with
  | [c0, c1, c2, c3, c4, c5], _ =>
    match ys, hyl with
    | [y0, y1, y2, y3, y4, y5], _ =>
      have g0 : DataW.trod enc Tryz.prog W 0 (fun _ => true) held k 3 (([c0, c1, c2, c3, c4, c5].drop 0).take (Tryz.prog.cellsOf 3)) = some y0 := hg 0 _ rfl
      have g1 : DataW.trod enc Tryz.prog W 0 (fun _ => true) held k 9 (([c0, c1, c2, c3, c4, c5].drop 1).take (Tryz.prog.cellsOf 9)) = some y1 := hg 1 _ rfl
      have g2 : DataW.trod enc Tryz.prog W 0 (fun _ => true) held k 23 (([c0, c1, c2, c3, c4, c5].drop 2).take (Tryz.prog.cellsOf 23)) = some y2 := hg 2 _ rfl
      have g3 : DataW.trod enc Tryz.prog W 0 (fun _ => true) held k 23 (([c0, c1, c2, c3, c4, c5].drop 3).take (Tryz.prog.cellsOf 23)) = some y3 := hg 3 _ rfl
      have g4 : DataW.trod enc Tryz.prog W 0 (fun _ => true) held k 24 (([c0, c1, c2, c3, c4, c5].drop 4).take (Tryz.prog.cellsOf 24)) = some y4 := hg 4 _ rfl
      have g5 : DataW.trod enc Tryz.prog W 0 (fun _ => true) held k 25 (([c0, c1, c2, c3, c4, c5].drop 5).take (Tryz.prog.cellsOf 25)) = some y5 := hg 5 _ rfl
      rw [Step.cInt] at g0
      rw [Step.cStr] at g1
      rw [Step.cStrs] at g2 g3
      rw [Step.cIts] at g4
      rw [Step.cNds] at g5
      obtain ⟨n0, e0, _, f0⟩ := DataW.trod_int Tryz.underlying3 g0
      obtain ⟨s1, e1, _, f1⟩ := DataW.trod_string Tryz.underlying9 g1
      obtain ⟨A2, d2, l2, e2, p2, q2, _⟩ := Step.strs_of (c0 := c2) g2
      obtain ⟨A3, d3, l3, e3, p3, q3, _⟩ := Step.strs_of (c0 := c3) g3
      obtain ⟨A4, d4, l4, e4, p4, q4, r4⟩ := Step.its_of (c0 := c4) g4
      obtain ⟨A5, d5, l5, e5, p5, q5⟩ := Step.nds_cell (c0 := c5) g5
      simp at e0 e1
      subst e0 e1 e2 e3 e4 e5
      exact ⟨⟨n0, bs s1, l2, l3, l4, l5⟩, ⟨A2, d2, A3, d3, A4, d4, A5, d5⟩, by show _ = [_, Value.string ⟨(bs s1).toArray⟩, _, _, _, _]; rw [mk_bs], ⟨p2, p3, p4, p5, q2, q3, q4⟩, ⟨f1, r4, q5⟩⟩
set_option maxRecDepth 100000 in
theorem Step.sts_of {H : Type} {enc : TypeId × Value → H} {W : World} {A : Option Addr} {len cap : Nat} {d : DataW H} {p : List MemPlace} {held : Bool}
    (h : DataW.Trod enc Tryz.prog W 0 (fun _ => true) held 22 (.slice A len cap) d p) : ∃ ss : List Stp, len = ss.length ∧ StpsAt W A ss ∧ (∀ s ∈ ss, s.raw) ∧ ss.length ≤ cap := by
  obtain ⟨fuel, hf⟩ := h
  rcases Go.Deep.open_slice Tryz.underlying22 hf with ⟨hcs, _⟩ | ⟨a, len', cap', m, n, D, Pl, hcs, _, hl, _, hm, _, hx⟩
  · simp [Value.cells] at hcs
    obtain ⟨rfl, rfl, rfl⟩ := hcs
    exact ⟨[], rfl, .inl rfl, fun j h => (List.not_mem_nil h).elim, Nat.zero_le _⟩
  · simp [Value.cells] at hcs
    obtain ⟨rfl, rfl, rfl⟩ := hcs
    rw [Step.cSt] at hx
    have hm' : m = cap := by simpa using hm
    subst hm'
    have one : ∀ i, i < m → ∃ y : Stp, (∃ z : Adr, (∀ j, j < 6 → W.cell? ((a.add (i * 6)).add j) = (y.cells z)[j]?) ∧ y.At W z) ∧ y.raw := by
      intro i hi
      obtain ⟨cs, hc, ht⟩ := hx i hi
      obtain ⟨_, hcl, hat⟩ := World.cells?_some hc
      obtain ⟨y, z, rfl, q1, q2⟩ := Step.st_of_cells hcl ht
      exact ⟨y, ⟨z, fun j hj => hat j hj, q1⟩, q2⟩
    by_cases h0 : len = 0
    · subst h0
      exact ⟨[], rfl, .inl rfl, fun j h => (List.not_mem_nil h).elim, Nat.zero_le _⟩
    · obtain ⟨f, hf2⟩ := pick_all ⟨0, [], [], [], [], []⟩ one
      have hlm : len ≤ m := by simpa using hl
      obtain ⟨⟨z0, h00, _⟩, _⟩ := hf2 0 (by omega)
      have h01 := h00 0 (by omega)
      obtain ⟨g, off, rfl, hg⟩ := addr_flat (a := a) (v := .int .i64 (f 0).op) (by simpa [Addr.add, Stp.cells] using h01)
      refine ⟨(List.range len).map f, by simp, .inr ⟨g, off, rfl, hg, fun i hi => ?_⟩, fun y hy => ?_, by simpa using hlm⟩
      · have hi' : i < len := by simpa using hi
        obtain ⟨⟨z, hc, hn⟩, _⟩ := hf2 i (by omega)
        simp only [List.getElem_map, List.getElem_range]
        have k0 := hc 0 (by omega)
        have k1 := hc 1 (by omega)
        have k2 := hc 2 (by omega)
        have k3 := hc 3 (by omega)
        have k4 := hc 4 (by omega)
        have k5 := hc 5 (by omega)
        rw [nd_addr_add, nd_addr_add] at k0 k1 k2 k3 k4 k5
        exact ⟨z, hn, k0, k1, k2, k3, k4, k5⟩
      · simp only [List.mem_map, List.mem_range] at hy
        obtain ⟨i, hi, rfl⟩ := hy
        exact (hf2 i (by omega)).2
end Go.Proofs.YtmbeeefkpgfgmaaGreatDoor
namespace Go.Proofs.YtmbeeefkpgfgmaaGreatDoor
open Go.ChangeShapes Go.WideShapes Go.ChangeAt Go.RowKit
namespace Step
theorem handed_sized {H : Type} {enc : TypeId × Value → H} {a : Assume} {C : Checked} {os : Os} {f : FuncId} {fn : Func} {s : ChangeSpec} {conds : List PathCond} {apart fresh handsOn again : Bool} {X : World → Array Value → Prop}
    (hX : ∀ (w w' : World) (args : Array Value), w.heap = w'.heap → X w args → X w' args)
    (own : ownKnob C.prog.godebug = none) (started : os.Started) (noInit : C.prog.inits.idxOf? f = none) (hfn : C.prog.funcs[f]? = some fn)
    (witness : ∃ (w : World) (tape : Tape) (i : Input), w.os = os ∧ (w.forCall tape i).Shaped C.prog ∧ i.vars = [] ∧ Input.okWide C.prog (w.forCall tape i) .any w.heap.size f i ∧
      ((s.pre enc C.prog fn conds apart (w.forCall tape i).memory i.args ∧ X (w.forCall tape i).memory i.args) ∧ sizedMet enc C.prog fn (OpenSpec.ofChange s) apart (w.forCall tape i).memory i.args) ∧ a.holds C.prog (lone (Frame.enter C.prog f i.args .normal) [] (w.forCall tape i)))
    (hvars : (OpenSpec.ofChange s).vars = s.vars)
    (contract : ∀ (W : World) (base : Nat) (args : Array Value) (ds gs : List (DataW H)) (before : List MemPlace),
      (∀ (j : Nat) t v, fn.params[j]? = some t → args[j]? = some v → Value.okWide C.prog W .any base t v) →
      DataW.Whole enc C.prog fn.params.toList s.vars apart W args.toList ds gs before → (DataW.weightsEach C.prog (fn.params.toList ++ (OpenSpec.ofChange s).bare.plain.varTypes C.prog) (ds ++ gs)).all (· ≤ reachBytes) = true → W.ShapedOpen C.prog → X W args →
      Calls C.prog f args W fun e W' => ∃ v, e = .returned v ∧ s.post enc C.prog fn apart fresh handsOn again W args v W') :
    ReturnsInHanded a C os f .any (fun w args => (s.pre enc C.prog fn conds apart w args ∧ X w args) ∧ sizedMet enc C.prog fn (OpenSpec.ofChange s) apart w args) (s.post enc C.prog fn apart fresh handsOn again) := by
  refine returnsInHanded_of_calls own started noInit witness ?_
  intro w tape i hos hshape hvars2 hok hpre hholds
  obtain ⟨_, _, _, fn2, hfn2, _, _, _, _, hval⟩ := hok
  obtain rfl : fn2 = fn := Option.some.inj (hfn2.symm.trans hfn)
  obtain ⟨⟨_, hx⟩, _, ds, gs, before, hw, hwt⟩ := hpre
  rw [hvars] at hw
  have hw2 := DataW.Whole.of_heap (w' := w.forCall tape i) (by rfl) hw
  refine (contract (w.forCall tape i) w.heap.size i.args ds gs before hval hw2 hwt hshape (hX _ _ _ (by rfl) hx)).mono fun e W' ⟨v, he, hp⟩ => ?_
  subst he
  exact ChangeSpec.post_blind hp
theorem bytesInt : Tryz.prog.bytesOf 3 = 8 := by kernel_rfl
set_option maxRecDepth 100000 in
theorem ints_sized {H : Type} {enc : TypeId × Value → H} {W : World} {A : Option Addr} {len cap : Nat} {d : DataW H} {p : List MemPlace} {held : Bool}
    (h : DataW.Trod enc Tryz.prog W 0 (fun _ => true) held 28 (.slice A len cap) d p) (hw : (d.weights Tryz.prog 28).all (· ≤ reachBytes) = true) : (A = none → cap = 0) ∧ len * 8 ≤ 140737488351232 := by
  obtain ⟨fuel, hf⟩ := h
  rcases Go.Deep.open_slice Tryz.underlying28 hf with ⟨hcs, hx⟩ | ⟨a, len', cap', m, n, D, Pl, hcs, _, hl, _, hm, hx, _⟩
  · simp [Value.cells] at hcs
    obtain ⟨rfl, rfl, rfl⟩ := hcs
    exact ⟨fun _ => rfl, by omega⟩
  · simp [Value.cells] at hcs
    obtain ⟨rfl, rfl, rfl⟩ := hcs
    refine ⟨fun e => (by cases e), ?_⟩
    have hd : d = .slice ((List.range len).map D) ((List.range (m - len)).map fun j => D (len + j)) := congrArg Prod.fst hx
    subst hd
    unfold DataW.weights at hw
    rw [ Tryz.underlying28 ] at hw
    simp only [List.all_cons, Bool.and_eq_true, decide_eq_true_eq, List.length_map, List.length_range, bytesInt] at hw
    have h1 := hw.1
    unfold reachBytes at h1
    omega
theorem cF : Tryz.prog.cellsOf 83 = 5 := by kernel_rfl
theorem cFs : Tryz.prog.cellsOf 84 = 65 := by kernel_rfl
theorem cBool : Tryz.prog.cellsOf 4 = 1 := by kernel_rfl
theorem uFs : Tryz.prog.underlying 84 = some (.array 13 83) := by kernel_rfl
theorem gU : Tryz.prog.globalNamed "warehouse/query.used" = some 0 := by kernel_rfl
theorem tU : (Tryz.prog.globals[ 0 ]?).map (·.type) = some 84 := by kernel_rfl
set_option maxRecDepth 100000 in
theorem fields_of {W : World} {held : Bool} {f : Nat} {cs : List Value} {x : DataW Unit × List MemPlace} (hl : cs.length = 5) (h : DataW.trod (fun _ => ()) Tryz.prog W 0 (fun _ => true) held f 83 cs = some x) :
    ∃ b0 b1 b2 b3 b4 : Bool, cs = [.bool b0, .bool b1, .bool b2, .bool b3, .bool b4] ∧ x.1 = .agg [.lit (.bool b0), .lit (.bool b1), .lit (.bool b2), .lit (.bool b3), .lit (.bool b4)] := by
  obtain ⟨ys, k, _, hy, _, hyl, hg⟩ := DataW.trod_struct Tryz.underlying83 h
  match cs, hl with
  | [c0, c1, c2, c3, c4], _ =>
    match ys, hyl with
    | [y0, y1, y2, y3, y4], _ =>
      have g0 : DataW.trod (fun _ => ()) Tryz.prog W 0 (fun _ => true) held k 4 (([c0, c1, c2, c3, c4].drop 0).take (Tryz.prog.cellsOf 4)) = some y0 := hg 0 _ rfl
      have g1 : DataW.trod (fun _ => ()) Tryz.prog W 0 (fun _ => true) held k 4 (([c0, c1, c2, c3, c4].drop 1).take (Tryz.prog.cellsOf 4)) = some y1 := hg 1 _ rfl
      have g2 : DataW.trod (fun _ => ()) Tryz.prog W 0 (fun _ => true) held k 4 (([c0, c1, c2, c3, c4].drop 2).take (Tryz.prog.cellsOf 4)) = some y2 := hg 2 _ rfl
      have g3 : DataW.trod (fun _ => ()) Tryz.prog W 0 (fun _ => true) held k 4 (([c0, c1, c2, c3, c4].drop 3).take (Tryz.prog.cellsOf 4)) = some y3 := hg 3 _ rfl
      have g4 : DataW.trod (fun _ => ()) Tryz.prog W 0 (fun _ => true) held k 4 (([c0, c1, c2, c3, c4].drop 4).take (Tryz.prog.cellsOf 4)) = some y4 := hg 4 _ rfl
      rw [cBool] at g0 g1 g2 g3 g4
      obtain ⟨b0, e0, z0⟩ := DataW.trod_bool Tryz.underlying4 g0
      obtain ⟨b1, e1, z1⟩ := DataW.trod_bool Tryz.underlying4 g1
      obtain ⟨b2, e2, z2⟩ := DataW.trod_bool Tryz.underlying4 g2
      obtain ⟨b3, e3, z3⟩ := DataW.trod_bool Tryz.underlying4 g3
      obtain ⟨b4, e4, z4⟩ := DataW.trod_bool Tryz.underlying4 g4
      simp at e0 e1 e2 e3 e4
      subst e0 e1 e2 e3 e4 z0 z1 z2 z3 z4
      exact ⟨b0, b1, b2, b3, b4, rfl, by rw [hy]; rfl⟩
def usedParts : List (DataW Unit) := match (Rows.laid_warehouse_query_used : DataW Unit) with
  | .agg l => l
  | _ => []
theorem usedParts_at : ∀ a : Nat, a < 13 → ∃ b0 b1 b2 b3 b4 : Bool, usedParts[a]? = some (.agg [.lit (.bool b0), .lit (.bool b1), .lit (.bool b2), .lit (.bool b3), .lit (.bool b4)]) ∧ usedL.getD (a * 5) false = b0 ∧ usedL.getD (a * 5 + 1) false = b1 ∧ usedL.getD (a * 5 + 2) false = b2 ∧ usedL.getD (a * 5 + 3) false = b3 ∧ usedL.getD (a * 5 + 4) false = b4
  | 0, _ => ⟨_, _, _, _, _, rfl, rfl, rfl, rfl, rfl, rfl⟩
  | 1, _ => ⟨_, _, _, _, _, rfl, rfl, rfl, rfl, rfl, rfl⟩
  | 2, _ => ⟨_, _, _, _, _, rfl, rfl, rfl, rfl, rfl, rfl⟩
  | 3, _ => ⟨_, _, _, _, _, rfl, rfl, rfl, rfl, rfl, rfl⟩
  | 4, _ => ⟨_, _, _, _, _, rfl, rfl, rfl, rfl, rfl, rfl⟩
  | 5, _ => ⟨_, _, _, _, _, rfl, rfl, rfl, rfl, rfl, rfl⟩
  | 6, _ => ⟨_, _, _, _, _, rfl, rfl, rfl, rfl, rfl, rfl⟩
  | 7, _ => ⟨_, _, _, _, _, rfl, rfl, rfl, rfl, rfl, rfl⟩
  | 8, _ => ⟨_, _, _, _, _, rfl, rfl, rfl, rfl, rfl, rfl⟩
  | 9, _ => ⟨_, _, _, _, _, rfl, rfl, rfl, rfl, rfl, rfl⟩
  | 10, _ => ⟨_, _, _, _, _, rfl, rfl, rfl, rfl, rfl, rfl⟩
  | 11, _ => ⟨_, _, _, _, _, rfl, rfl, rfl, rfl, rfl, rfl⟩
  | 12, _ => ⟨_, _, _, _, _, rfl, rfl, rfl, rfl, rfl, rfl⟩
  | n + 13, h => absurd h (by omega)
theorem usedVar_of {W : World} {cs : Array Value} {f : Nat} {p : List MemPlace} {held : Bool} (hv : W.var? Tryz.prog "warehouse/query.used" = some cs)
    (hd : DataW.trod (fun _ => ()) Tryz.prog W 0 (fun _ => true) held f 84 cs.toList = some (Rows.laid_warehouse_query_used, p)) : UsedVar W := by
  obtain ⟨xs, m, _, hx, hlen, hn, hel⟩ := DataW.trod_array uFs hd
  rw [cFs] at hlen
  have hparts : usedParts = xs.map (·.1) := by
    have h1 : (Rows.laid_warehouse_query_used : DataW Unit) = .agg (xs.map (·.1)) := congrArg Prod.fst hx
    unfold usedParts
    rw [h1]
  have read : ∀ j, j < 65 → W.cell? ⟨0, j, none⟩ = some (.bool (usedL.getD j false)) := fun j hj => by
    have ha : j / 5 < 13 := by omega
    have h := hel (j / 5) ha
    rw [cF] at h
    have hja : j / 5 < xs.length := by omega
    rw [List.getElem?_eq_getElem hja] at h
    have hl5 : ((cs.toList.drop (j / 5 * 5)).take 5).length = 5 := by rw [List.length_take, List.length_drop]; omega
    obtain ⟨b0, b1, b2, b3, b4, e, e2⟩ := fields_of hl5 h
    obtain ⟨d0, d1, d2, d3, d4, hp, u0, u1, u2, u3, u4⟩ := usedParts_at (j / 5) ha
    rw [hparts, List.getElem?_map, List.getElem?_eq_getElem hja, Option.map_some, e2] at hp
    simp only [Option.some.injEq, DataW.agg.injEq, List.cons.injEq, DataW.lit.injEq, Lit.bool.injEq, and_true] at hp
    obtain ⟨rfl, rfl, rfl, rfl, rfl⟩ := hp
    have hc : cs[j]? = ([Value.bool b0, .bool b1, .bool b2, .bool b3, .bool b4] : List Value)[j % 5]? := by
      rw [← e, List.getElem?_take, if_pos (by omega), List.getElem?_drop, show j / 5 * 5 + j % 5 = j by omega]
      simp
    rw [World.var?_cell gU hv j, hc]
    have hr : j % 5 < 5 := by omega
    have hj2 : j = j / 5 * 5 + j % 5 := by omega
    generalize j % 5 = r at *
    generalize j / 5 = a at *
    subst hj2
    match r, hr with
    | 0, _ => rw [Nat.add_zero, u0]; rfl
    | 1, _ => rw [u1]; rfl
    | 2, _ => rw [u2]; rfl
    | 3, _ => rw [u3]; rfl
    | 4, _ => rw [u4]; rfl
  exact ⟨World.block_lt_of_cell? W _ (read 0 (by decide)), read⟩
def laidQ : List (String × DataW Unit) := [("warehouse/token.words", Rows.laid_warehouse_token_words), ("warehouse/query.used", Rows.laid_warehouse_query_used)]
theorem door_metQ (os : Os) (args : Array Value) : laidMetH Tryz.prog laidQ ((World.laidAll Tryz.prog os laidQ).forCall (fun _ _ => 0) ⟨#[], args, []⟩).memory := by
  rw [MakeChecks.laidMetH_plain _ _ _ (by kernel_rfl)]
  exact laidMet_laidAll args (by kernel_rfl) (by kernel_rfl)
theorem door_shapedQ (os : Os) (args : Array Value) : ((World.laidAll Tryz.prog os laidQ).forCall (fun _ _ => 0) ⟨#[], args, []⟩).Shaped Tryz.prog :=
  World.shaped_of_ZipB (by kernel_rfl) (by kernel_rfl)
theorem vars_of_Q {W : World} (h : laidMetH Tryz.prog laidQ W) : StrVar W 2 wordsS ∧ UsedVar W := by
  rw [MakeChecks.laidMetH_plain _ _ _ (by kernel_rfl)] at h
  obtain ⟨ps, ⟨g0, t0, cs0, f0, p0, q0, hg0, ht0, hv0, hd0, ⟨g1, t1, cs1, f1, p1, q1, hg1, ht1, hv1, hd1, _, _⟩, _⟩, _, _⟩ := h
  obtain rfl := Option.some.inj (gW.symm.trans hg0)
  obtain rfl := Option.some.inj (tW.symm.trans ht0)
  obtain rfl := Option.some.inj (gU.symm.trans hg1)
  obtain rfl := Option.some.inj (tU.symm.trans ht1)
  exact ⟨strVar_of wordsS hg0 hv0 hd0 (by decide), usedVar_of hv1 hd1⟩
end Step
end Go.Proofs.YtmbeeefkpgfgmaaGreatDoor
