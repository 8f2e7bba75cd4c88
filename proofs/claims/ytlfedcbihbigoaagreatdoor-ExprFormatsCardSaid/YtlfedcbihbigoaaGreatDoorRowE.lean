/- What a slice of nodes, and a node, among the arguments read as. The Expr seat: what the rows' condition gives a walk; a start that meets it. -/
import Derived.Test.YtlfedcbihbigoaaGreatDoorRowAZ
import Derived.Test.YtlfedcbihbigoaaGreatDoorBaseVX
import Derived.Deep.Slices
import Derived.Shelf.Vars
import Derived.LaidSub
import Derived.Lay
set_option linter.unusedVariables false
set_option linter.unusedSimpArgs false
namespace Go.Proofs.YtlfedcbihbigoaaGreatDoor
open Go.ChangeShapes Go.WideShapes Go.ChangeAt Go.RowKit
theorem nd_addr_add (g off i : Nat) : (⟨g, off, none⟩ : Addr).add i = ⟨g, off + i, none⟩ := by unfold Addr.add; split <;> simp_all
theorem Step.cNd : Tryz.prog.cellsOf 53 = 6 := by kernel_rfl
theorem Step.cVal : Tryz.prog.cellsOf 51 = 3 := by kernel_rfl
set_option maxRecDepth 100000 in
/-- What the six cells of a node hold. -/
theorem Step.nd_of_cells {H : Type} {enc : TypeId × Value → H} {W : World} {held : Bool} {fuel : Nat} {cs : List Value} {x : DataW H × List MemPlace} (hl : cs.length = 6)
    (h : DataW.trod enc Tryz.prog W 0 (fun _ => true) held fuel 53 cs = some x) : ∃ n : Nd, cs = n.cells ∧ n.name.length ≤ maxLen ∧ n.val.text.length ≤ maxLen ∧ (Lit.int IntKind.i64 n.op).wf = true ∧ (Lit.int IntKind.i64 n.val.kind).wf = true ∧ (Lit.int IntKind.i64 n.val.num).wf = true ∧ (Lit.int IntKind.i64 n.arity).wf = true := by
  obtain ⟨ys, k, _, _, _, hyl, hg⟩ := DataW.trod_struct Tryz.underlying53 h
  match cs, hl with
  | [c0, c1, c2, c3, c4, c5], _ =>
    match ys, hyl with
    | [y0, y1, y2, y3], _ =>
      have g0 : DataW.trod enc Tryz.prog W 0 (fun _ => true) held k 3 (([c0, c1, c2, c3, c4, c5].drop 0).take (Tryz.prog.cellsOf 3)) = some y0 := hg 0 _ rfl
      have g1 : DataW.trod enc Tryz.prog W 0 (fun _ => true) held k 51 (([c0, c1, c2, c3, c4, c5].drop 1).take (Tryz.prog.cellsOf 51)) = some y1 := hg 1 _ rfl
      have g2 : DataW.trod enc Tryz.prog W 0 (fun _ => true) held k 9 (([c0, c1, c2, c3, c4, c5].drop 4).take (Tryz.prog.cellsOf 9)) = some y2 := hg 2 _ rfl
      have g3 : DataW.trod enc Tryz.prog W 0 (fun _ => true) held k 3 (([c0, c1, c2, c3, c4, c5].drop 5).take (Tryz.prog.cellsOf 3)) = some y3 := hg 3 _ rfl
      rw [Step.cInt] at g0 g3
      rw [Step.cStr] at g2
      rw [Step.cVal] at g1
      obtain ⟨zs, k2, _, _, _, hzl, hv⟩ := DataW.trod_struct Tryz.underlying51 g1
      match zs, hzl with
      | [z0, z1, z2], _ =>
        have v0 : DataW.trod enc Tryz.prog W 0 (fun _ => true) held k2 3 (([c1, c2, c3].drop 0).take (Tryz.prog.cellsOf 3)) = some z0 := hv 0 _ rfl
        have v1 : DataW.trod enc Tryz.prog W 0 (fun _ => true) held k2 3 (([c1, c2, c3].drop 1).take (Tryz.prog.cellsOf 3)) = some z1 := hv 1 _ rfl
        have v2 : DataW.trod enc Tryz.prog W 0 (fun _ => true) held k2 9 (([c1, c2, c3].drop 2).take (Tryz.prog.cellsOf 9)) = some z2 := hv 2 _ rfl
        rw [Step.cInt] at v0 v1
        rw [Step.cStr] at v2
        obtain ⟨n0, e0, _, f0⟩ := DataW.trod_int Tryz.underlying3 g0
        obtain ⟨n1, e1, _, f1⟩ := DataW.trod_int Tryz.underlying3 v0
        obtain ⟨n2, e2, _, f2⟩ := DataW.trod_int Tryz.underlying3 v1
        obtain ⟨s3, e3, _, f3⟩ := DataW.trod_string Tryz.underlying9 v2
        obtain ⟨s4, e4, _, f4⟩ := DataW.trod_string Tryz.underlying9 g2
        obtain ⟨n5, e5, _, f5⟩ := DataW.trod_int Tryz.underlying3 g3
        simp at e0 e1 e2 e3 e4 e5
        subst e0 e1 e2 e3 e4 e5
        exact ⟨⟨n0, ⟨n1, n2, bs s3⟩, bs s4, n5⟩, by show _ = [_, _, _, Value.string ⟨(bs s3).toArray⟩, Value.string ⟨(bs s4).toArray⟩, _]; rw [mk_bs, mk_bs], f4, f3, f0, f1, f2, f5⟩
set_option maxRecDepth 100000 in
theorem Step.node_of {H : Type} {enc : TypeId × Value → H} {W : World} {v : Value} {r : Reach} {b0 : Nat} {d : DataW H} {p : List MemPlace} {held : Bool} (hv : Value.okWide Tryz.prog W r b0 53 v)
    (h : DataW.Trod enc Tryz.prog W 0 (fun _ => true) held 53 v d p) : ∃ (op k m a : Int) (x nm : ByteArray), v = ndV op k m x nm a := by
  obtain ⟨cs, rfl, hsz⟩ := okWide_struct Tryz.underlying53 hv
  obtain ⟨l⟩ := cs
  obtain ⟨fuel, hf⟩ := h
  obtain ⟨n, hn, _⟩ := Step.nd_of_cells (cs := l) (hsz.trans Step.cNd) hf
  subst hn
  exact ⟨n.op, n.val.kind, n.val.num, n.arity, ⟨n.val.text.toArray⟩, ⟨n.name.toArray⟩, rfl⟩
theorem ndCells_range (f : Nat → Nd) : ∀ n, ndCells ((List.range n).map f) = (List.range n).flatMap fun i => (f i).cells
  | n => by simp [ndCells, List.flatMap_map]
set_option maxRecDepth 100000 in
theorem Step.nds_of {H : Type} {enc : TypeId × Value → H} {W : World} {A : Option Addr} {len cap : Nat} {d : DataW H} {p : List MemPlace} {held : Bool}
    (h : DataW.Trod enc Tryz.prog W 0 (fun _ => true) held 30 (.slice A len cap) d p) : ∃ es : List Nd, len = es.length ∧ NdsAt W A es ∧ NamesOk es ∧ es.length ≤ cap := by
  obtain ⟨fuel, hf⟩ := h
  rcases Go.Deep.open_slice Tryz.underlying30 hf with ⟨hcs, _⟩ | ⟨a, len', cap', m, n, D, Pl, hcs, _, hl, _, hm, _, hx⟩
  · simp [Value.cells] at hcs
    obtain ⟨rfl, rfl, rfl⟩ := hcs
    exact ⟨[], rfl, .inl rfl, fun j h => (List.not_mem_nil h).elim, Nat.zero_le _⟩
  · simp [Value.cells] at hcs
    obtain ⟨rfl, rfl, rfl⟩ := hcs
    rw [Step.cNd] at hx
    have hm' : m = cap := by simpa using hm
    subst hm'
    have one : ∀ i, i < m → ∃ n : Nd, (∀ j, j < 6 → W.cell? ((a.add (i * 6)).add j) = n.cells[j]?) ∧ n.name.length ≤ maxLen := by
      intro i hi
      obtain ⟨cs, hc, ht⟩ := hx i hi
      obtain ⟨_, hcl, hat⟩ := World.cells?_some hc
      obtain ⟨n, rfl, hn, _⟩ := Step.nd_of_cells hcl ht
      exact ⟨n, fun j hj => hat j hj, hn⟩
    by_cases h0 : len = 0
    · subst h0
      exact ⟨[], rfl, .inl rfl, fun j h => (List.not_mem_nil h).elim, Nat.zero_le _⟩
    · obtain ⟨f, hf2⟩ : ∃ f : Nat → Nd, ∀ i, i < m → (∀ j, j < 6 → W.cell? ((a.add (i * 6)).add j) = (f i).cells[j]?) ∧ (f i).name.length ≤ maxLen :=
        ⟨fun i => if h : i < m then (one i h).choose else ⟨0, vl0, [], 0⟩, fun i h => by simp only [dif_pos h]; exact (one i h).choose_spec⟩
      obtain ⟨g, off, spot⟩ := a
      have hc0 := (hf2 0 (by omega)).1 0 (by omega)
      have hc1 : W.cell? ((⟨g, off, spot⟩ : Addr).add 0) = some (.int .i64 (f 0).op) := by simpa [Addr.add, Nd.cells] using hc0
      have hspot : spot = none := by simpa [Addr.add] using World.cell?_spot hc1
      subst hspot
      refine ⟨(List.range len).map f, by simp, .inr ⟨g, off, rfl, ?_, fun j u hu => ?_⟩, fun n hn => ?_, by simpa using hl⟩
      · have := World.block_lt_of_cell? W _ hc1
        simpa [Addr.add] using this
      · have hj : j < len * 6 := by
          rcases Nat.lt_or_ge j (ndCells ((List.range len).map f)).length with h | h
          · rw [ndCells_len] at h; simpa using h
          · rw [List.getElem?_eq_none h] at hu; cases hu
        have hq : j / 6 < len := by omega
        have h6 := (hf2 (j / 6) (by omega)).1 (j % 6) (by omega)
        rw [nd_addr_add, nd_addr_add, show off + j / 6 * 6 + j % 6 = off + j by omega] at h6
        rw [h6, ← hu]
        have hgt := ndCells_get ((List.range len).map f) (j / 6) (by simpa using hq)
        simp only [List.getElem_map, List.getElem_range] at hgt
        obtain ⟨h1, h2, h3, h4, h5, h7⟩ := hgt
        have hr : j % 6 < 6 := by omega
        have hj2 : j = j / 6 * 6 + j % 6 := by omega
        generalize j % 6 = r at *
        generalize j / 6 = q at *
        subst hj2
        match r, hr with
        | 0, _ => exact h1.symm
        | 1, _ => exact h2.symm
        | 2, _ => exact h3.symm
        | 3, _ => exact h4.symm
        | 4, _ => exact h5.symm
        | 5, _ => exact h7.symm
      · simp only [List.mem_map, List.mem_range] at hn
        obtain ⟨i, hi, rfl⟩ := hn
        exact (hf2 i (by omega)).2
end Go.Proofs.YtlfedcbihbigoaaGreatDoor

namespace Go.Proofs.YtlfedcbihbigoaaGreatDoor
open Go.ChangeShapes Go.WideShapes Go.ChangeAt Go.RowKit
namespace Step
end Step
end Go.Proofs.YtlfedcbihbigoaaGreatDoor
