/- What a slice of tokens among the arguments reads as (for the seats of expressions). -/
import Derived.Test.YtlfedcbihbigoaaGreatDoorRowAZ
import Derived.Test.YtlfedcbihbigoaaGreatDoorValDF
import Derived.Deep.Slices
set_option linter.unusedVariables false
set_option linter.unusedSimpArgs false
namespace Go.Proofs.YtlfedcbihbigoaaGreatDoor
open Go.ChangeShapes Go.WideShapes Go.ChangeAt Go.RowKit
theorem Step.cTok : Tryz.prog.cellsOf 70 = 4 := by kernel_rfl
theorem addr_add (g off i : Nat) : (⟨g, off, none⟩ : Addr).add i = ⟨g, off + i, none⟩ := by unfold Addr.add; split <;> simp_all
set_option maxRecDepth 100000 in
theorem Step.toks_of {H : Type} {enc : TypeId × Value → H} {W : World} {A : Option Addr} {len cap : Nat} {d : DataW H} {p : List MemPlace} {held : Bool}
    (h : DataW.Trod enc Tryz.prog W 0 (fun _ => true) held 34 (.slice A len cap) d p) : ∃ ts : List Tok, len = ts.length ∧ ToksAt W A ts ∧ (∀ j (h : j < ts.length), ts[j].text.length ≤ maxLen) ∧ ts.length ≤ cap := by
  obtain ⟨fuel, hf⟩ := h
  rcases Go.Deep.open_slice Tryz.underlying34 hf with ⟨hcs, _⟩ | ⟨a, len', cap', m, n, D, Pl, hcs, _, hl, _, hm, _, hx⟩
  · simp [Value.cells] at hcs
    obtain ⟨rfl, rfl, rfl⟩ := hcs
    exact ⟨[], rfl, .inl rfl, fun j h => absurd h (Nat.not_lt_zero _), Nat.zero_le _⟩
  · simp [Value.cells] at hcs
    obtain ⟨rfl, rfl, rfl⟩ := hcs
    rw [Step.cTok] at hx
    have hm' : m = cap := by simpa using hm
    subst hm'
    have one : ∀ i, i < m → ∃ t : Tok, W.cell? (a.add (i * 4)) = some (.int .i64 t.kind) ∧ W.cell? ((a.add (i * 4)).add 1) = some (str t.text) ∧ W.cell? ((a.add (i * 4)).add 2) = some (.int .i64 t.num) ∧ W.cell? ((a.add (i * 4)).add 3) = some (.int .i64 t.off) ∧ t.text.length ≤ maxLen := by
      intro i hi
      obtain ⟨cs, hc, ht⟩ := hx i hi
      obtain ⟨ys, k, _, _, _, hyl, hg⟩ := DataW.trod_struct Tryz.underlying70 ht
      obtain ⟨_, hcl, hat⟩ := World.cells?_some hc
      match cs, hcl with
      | [c0, c1, c2, c3], _ =>
        match ys, hyl with
        | [y0, y1, y2, y3], _ =>
          have g0 : DataW.trod enc Tryz.prog W 0 (fun _ => true) held k 3 (([c0, c1, c2, c3].drop 0).take (Tryz.prog.cellsOf 3)) = some y0 := hg 0 _ rfl
          have g1 : DataW.trod enc Tryz.prog W 0 (fun _ => true) held k 9 (([c0, c1, c2, c3].drop 1).take (Tryz.prog.cellsOf 9)) = some y1 := hg 1 _ rfl
          have g2 : DataW.trod enc Tryz.prog W 0 (fun _ => true) held k 3 (([c0, c1, c2, c3].drop 2).take (Tryz.prog.cellsOf 3)) = some y2 := hg 2 _ rfl
          have g3 : DataW.trod enc Tryz.prog W 0 (fun _ => true) held k 3 (([c0, c1, c2, c3].drop 3).take (Tryz.prog.cellsOf 3)) = some y3 := hg 3 _ rfl
          rw [Step.cInt] at g0 g2 g3
          rw [Step.cStr] at g1
          obtain ⟨n0, e0, _, _⟩ := DataW.trod_int Tryz.underlying3 g0
          obtain ⟨s1, e1, _, hs⟩ := DataW.trod_string Tryz.underlying9 g1
          obtain ⟨n2, e2, _, _⟩ := DataW.trod_int Tryz.underlying3 g2
          obtain ⟨n3, e3, _, _⟩ := DataW.trod_int Tryz.underlying3 g3
          simp at e0 e1 e2 e3
          subst e0 e1 e2 e3
          refine ⟨⟨n0, bs s1, n2, n3⟩, ?_, ?_, ?_, ?_, hs⟩
          · have := hat 0 (by decide); simpa [Addr.add] using this
          · have := hat 1 (by decide); rw [this]; show some (Value.string s1) = some (.string ⟨(bs s1).toArray⟩); rw [mk_bs]
          · exact hat 2 (by decide)
          · exact hat 3 (by decide)
    by_cases h0 : len = 0
    · subst h0
      exact ⟨[], rfl, .inl rfl, fun j h => absurd h (Nat.not_lt_zero _), Nat.zero_le _⟩
    · obtain ⟨f, hf2⟩ : ∃ f : Nat → Tok, ∀ i, i < m → W.cell? (a.add (i * 4)) = some (.int .i64 (f i).kind) ∧ W.cell? ((a.add (i * 4)).add 1) = some (str (f i).text) ∧ W.cell? ((a.add (i * 4)).add 2) = some (.int .i64 (f i).num) ∧ W.cell? ((a.add (i * 4)).add 3) = some (.int .i64 (f i).off) ∧ (f i).text.length ≤ maxLen :=
        ⟨fun i => if h : i < m then (one i h).choose else tok0, fun i h => by simp only [dif_pos h]; exact (one i h).choose_spec⟩
      obtain ⟨g, off, spot⟩ := a
      have hspot : spot = none := by
        have := (hf2 0 (by omega)).1
        simpa [Addr.add] using World.cell?_spot this
      subst hspot
      refine ⟨(List.range len).map f, by simp, .inr ⟨g, off, rfl, ?_, fun i hi => ?_⟩, fun j hj => ?_, by simpa using hl⟩
      · have := World.block_lt_of_cell? W _ (hf2 0 (by omega)).1
        simpa [Addr.add] using this
      · have hi' : i < len := by simpa using hi
        obtain ⟨h1, h2, h3, h4, _⟩ := hf2 i (by omega)
        rw [addr_add] at h1 h2 h3 h4
        rw [addr_add] at h2 h3 h4
        simp only [List.getElem_map, List.getElem_range]
        exact ⟨h1, h2, h3, h4⟩
      · have hj' : j < len := by simpa using hj
        simp only [List.getElem_map, List.getElem_range]
        exact (hf2 j (by omega)).2.2.2.2
end Go.Proofs.YtlfedcbihbigoaaGreatDoor
