/- Contracts: ref22.SameRow on equal rows; law42.plain. -/
import Derived.Test.YtajcddaahmbllaaDoorConE
set_option linter.unusedVariables false
set_option linter.unusedSimpArgs false
namespace Go.Proofs.YtajcddaahmbllaaDoor
open Go.RowKit
/-- A slice that reads as a row. -/
def VlsAt (w : World) (A : Option Addr) (vs : List Vl) : Prop :=
  vs = [] ∨ ∃ g off, A = some ⟨g, off, none⟩ ∧ g < w.heap.size ∧ ∀ i (h : i < vs.length),
    w.cell? ⟨g, off + i * 3, none⟩ = some (.int .i64 vs[i].kind) ∧ w.cell? ⟨g, off + i * 3 + 1, none⟩ = some (.int .i64 vs[i].num) ∧ w.cell? ⟨g, off + i * 3 + 2, none⟩ = some (str vs[i].text)
theorem vlCells_len : ∀ vs : List Vl, (vlCells vs).length = vs.length * 3
  | [] => rfl
  | v :: vs => by
    have := vlCells_len vs
    rw [show vlCells (v :: vs) = v.cells ++ vlCells vs from rfl, List.length_append, this, List.length_cons]
    simp [Vl.cells]; omega
theorem vlCells_get : ∀ (vs : List Vl) (i : Nat) (h : i < vs.length), (vlCells vs)[i * 3]? = some (.int .i64 vs[i].kind) ∧ (vlCells vs)[i * 3 + 1]? = some (.int .i64 vs[i].num) ∧ (vlCells vs)[i * 3 + 2]? = some (str vs[i].text)
  | [], i, h => by simp at h
  | v :: vs, 0, _ => ⟨rfl, rfl, rfl⟩
  | v :: vs, i + 1, h => by
    obtain ⟨h1, h2, h3⟩ := vlCells_get vs i (by simpa using h)
    have e : ∀ j, (vlCells (v :: vs))[(i + 1) * 3 + j]? = (vlCells vs)[i * 3 + j]? := by
      intro j
      rw [show vlCells (v :: vs) = v.cells ++ vlCells vs from rfl, List.getElem?_append_right (by simp [Vl.cells]; omega)]
      congr 1
      simp [Vl.cells]; omega
    exact ⟨by simpa using (e 0).trans h1, (e 1).trans h2, (e 2).trans h3⟩
theorem VlsAt_of_own {w : World} {base e c : Nat} {A : Option Addr} {vs : List Vl} (h : w.ownsRow base e 3 (.slice A vs.length c) vs.length (vlCells vs)) : VlsAt w A vs := by
  rcases h.2 with ⟨_, hn⟩ | ⟨g, cap, cur, hv, hg, hh, hnc, hcap, hsz, htk⟩
  · exact .inl (List.eq_nil_of_length_eq_zero hn)
  · injection hv with h1 h2 h3
    subst h1
    refine .inr ⟨g, 0, rfl, lt_of_heap hh, fun i hi => ?_⟩
    have hc : ∀ j, j < vs.length * 3 → w.cell? ⟨g, j, none⟩ = (vlCells vs)[j]? := fun j hj => World.ownsRow.cellAt h j hj
    obtain ⟨h1, h2, h3⟩ := vlCells_get vs i hi
    simp only [Nat.zero_add]
    exact ⟨(hc _ (by omega)).trans h1, (hc _ (by omega)).trans h2, (hc _ (by omega)).trans h3⟩
theorem VlsAt.below {w w' : World} {A : Option Addr} {vs : List Vl} (h : VlsAt w A vs) (hb : Below w.heap.size w w') : VlsAt w' A vs := by
  rcases h with h | ⟨g, off, hA, hg, hc⟩
  · exact .inl h
  · refine .inr ⟨g, off, hA, Nat.lt_of_lt_of_le hg hb.size, fun i hi => ?_⟩
    obtain ⟨h1, h2, h3⟩ := hc i hi
    exact ⟨(hb.cell (p := ⟨g, _, none⟩) hg).trans h1, (hb.cell (p := ⟨g, _, none⟩) hg).trans h2, (hb.cell (p := ⟨g, _, none⟩) hg).trans h3⟩
set_option maxRecDepth 100000 in
set_option maxHeartbeats 4000000 in
theorem ref22_SameRow_any (A B : Option Addr) (vs : List Vl) (ca cb : Nat) (w : World) (ha : VlsAt w A vs) (hb : VlsAt w B vs) (hl : vs.length ≤ 1000000) :
    Calls Tryd.prog 10 #[.slice A vs.length ca, .slice B vs.length cb] w fun e w' => e = .returned (.bool true) ∧ ∃ n, w' = w.drewN n := by
  have HA := hide ha; have HB := hide hb
  clear ha hb
  have a1 : ((vs.length : Int) != (vs.length : Int)) = false := by simp
  go_enter Tryd.func10, Tryd.ntmps10
  go_wp2
  go_loopw [5] (fun i wr => ∃ (k n : Nat), k ≤ vs.length ∧ i = .int .i64 k ∧ wr = w.drewN n) (fun i _ => vs.length - (intOf i).toNat)
  case atStart => exact ⟨0, 0, by omega, rfl, rfl⟩
  case round =>
    obtain ⟨k, n, hk, rfl, rfl⟩ := hrel
    by_cases hlt : k < vs.length
    · rcases HA.out with h | ⟨ga, oa, rfl, hga, hca⟩
      · exact absurd hlt (by rw [h]; simp)
      rcases HB.out with h | ⟨gb, ob, rfl, hgb, hcb⟩
      · exact absurd hlt (by rw [h]; simp)
      obtain ⟨ca1, ca2, ca3⟩ := hca k hlt
      obtain ⟨cb1, cb2, cb3⟩ := hcb k hlt
      clear hca hcb
      generalize vs[k] = x at *
      go_wp2
      go_big_quiet (fail)
      go_wp2
      exact ⟨⟨k + 1, _, by omega, by go_num, rfl⟩, by simp [intOf]; omega⟩
    · go_wp2
      go_ret
      exact ⟨rfl, _, rfl⟩
theorem plainRow : rowS [49, 44, 32, 39, 105, 116, 39, 39, 115, 39] = .ok [⟨2, 1, []⟩, ⟨3, 0, [105, 116, 39, 115]⟩] := by kernel_rfl
theorem plainLit : litV 3 0 [105, 116, 39, 115] = [39, 105, 116, 39, 39, 115, 39] := by
  unfold litV
  rw [if_neg (by decide), if_neg (by decide), if_neg (by decide), if_pos rfl]; rfl
set_option maxRecDepth 100000 in
set_option maxHeartbeats 4000000 in
theorem law42_plain_any (w : World) (hG : GlobJ w) : Calls Tryd.prog 5 #[] w fun e w' => e = .returned (.bool true) ∧ Below w.heap.size w w' := by
  have HG := hide hG; clear hG
  go_enter Tryd.func5, Tryd.ntmps5
  go_wp2_with fail
  refine (console_Row_any _ _ HG.out.glob (by decide)).mono ?_
  rintro e w1 ⟨hres, hb1⟩
  rw [show rowS (bs ⟨#[49, 44, 32, 39, 105, 116, 39, 39, 115, 39]⟩) = _ from plainRow] at hres
  obtain ⟨A, c, he, hown⟩ := hres
  obtain rfl : e = .returned (.tuple #[.slice A 2 c, .int .i64 0]) := he
  have hv := VlsAt_of_own hown
  clear hown
  go_wp2_with fail
  refine (con_Literal_any 3 0 ⟨#[105, 116, 39, 115]⟩ _ (HG.out.below hb1) (by decide)).mono ?_
  rintro e w2 ⟨rfl, hb2⟩
  rw [show litV 3 0 (bs ⟨#[105, 116, 39, 115]⟩) = _ from plainLit]
  have hv2 := hv.below hb2
  clear hv
  rcases hv2 with h | ⟨g, off, rfl, hg, hc⟩
  · cases h
  have h1 : w2.cell? ⟨g, off + 3 + 2, none⟩ = some (str [105, 116, 39, 115]) := (hc 1 (by decide)).2.2
  clear hc
  go_wp2
  go_ret
  exact ⟨rfl, below_st hb2 hb1⟩
end Go.Proofs.YtajcddaahmbllaaDoor
