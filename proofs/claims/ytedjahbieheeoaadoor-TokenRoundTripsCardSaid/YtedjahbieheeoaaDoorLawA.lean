/- Contracts of the comparers of tokens. -/
import Derived.Test.YtedjahbieheeoaaDoorTokF
set_option linter.unusedVariables false
set_option linter.unusedSimpArgs false
namespace Go.Proofs.YtedjahbieheeoaaDoor
open Go.RowKit

/-- A slice that reads as a list of tokens. -/
def ToksAt (w : World) (A : Option Addr) (ts : List Tok) : Prop :=
  ts = [] ∨ ∃ g off, A = some ⟨g, off, none⟩ ∧ g < w.heap.size ∧ ∀ i (h : i < ts.length),
    w.cell? ⟨g, off + i * 4, none⟩ = some (.int .i64 ts[i].kind) ∧ w.cell? ⟨g, off + i * 4 + 1, none⟩ = some (str ts[i].text) ∧
    w.cell? ⟨g, off + i * 4 + 2, none⟩ = some (.int .i64 ts[i].num) ∧ w.cell? ⟨g, off + i * 4 + 3, none⟩ = some (.int .i64 ts[i].off)
theorem tokCells_get : ∀ (ts : List Tok) (i : Nat) (h : i < ts.length), (tokCells ts)[i * 4]? = some (.int .i64 ts[i].kind) ∧ (tokCells ts)[i * 4 + 1]? = some (str ts[i].text) ∧ (tokCells ts)[i * 4 + 2]? = some (.int .i64 ts[i].num) ∧ (tokCells ts)[i * 4 + 3]? = some (.int .i64 ts[i].off)
  | [], i, h => by simp at h
  | t :: ts, 0, _ => ⟨rfl, rfl, rfl, rfl⟩
  | t :: ts, i + 1, h => by
    obtain ⟨h1, h2, h3, h4⟩ := tokCells_get ts i (by simpa using h)
    have e : ∀ j, (tokCells (t :: ts))[(i + 1) * 4 + j]? = (tokCells ts)[i * 4 + j]? := by
      intro j
      rw [show tokCells (t :: ts) = t.cells ++ tokCells ts from rfl, List.getElem?_append_right (by simp [Tok.cells]; omega)]
      congr 1
      simp [Tok.cells]; omega
    exact ⟨by simpa using (e 0).trans h1, (e 1).trans h2, (e 2).trans h3, (e 3).trans h4⟩
theorem ToksAt_of_own {w : World} {base e c : Nat} {A : Option Addr} {ts : List Tok} (h : w.ownsRow base e 4 (.slice A ts.length c) ts.length (tokCells ts)) : ToksAt w A ts := by
  rcases h.2 with ⟨_, hn⟩ | ⟨g, cap, cur, hv, hg, hh, hnc, hcap, hsz, htk⟩
  · exact .inl (List.eq_nil_of_length_eq_zero hn)
  · injection hv with h1 h2 h3
    subst h1
    refine .inr ⟨g, 0, rfl, lt_of_heap hh, fun i hi => ?_⟩
    have hc : ∀ j, j < ts.length * 4 → w.cell? ⟨g, j, none⟩ = (tokCells ts)[j]? := fun j hj => World.ownsRow.cellAt h j hj
    obtain ⟨h1, h2, h3, h4⟩ := tokCells_get ts i hi
    simp only [Nat.zero_add]
    exact ⟨(hc _ (by omega)).trans h1, (hc _ (by omega)).trans h2, (hc _ (by omega)).trans h3, (hc _ (by omega)).trans h4⟩
theorem ToksAt.below {w w' : World} {A : Option Addr} {ts : List Tok} (h : ToksAt w A ts) (hb : Below w.heap.size w w') : ToksAt w' A ts := by
  rcases h with h | ⟨g, off, hA, hg, hc⟩
  · exact .inl h
  · refine .inr ⟨g, off, hA, Nat.lt_of_lt_of_le hg hb.size, fun i hi => ?_⟩
    obtain ⟨h1, h2, h3, h4⟩ := hc i hi
    exact ⟨(hb.cell (p := ⟨g, _, none⟩) hg).trans h1, (hb.cell (p := ⟨g, _, none⟩) hg).trans h2, (hb.cell (p := ⟨g, _, none⟩) hg).trans h3, (hb.cell (p := ⟨g, _, none⟩) hg).trans h4⟩

def sameT (a b : Tok) : Bool := (a.kind == b.kind) && (a.num == b.num) && (a.text == b.text)
def sameL : List Tok → List Tok → Bool
  | [], [] => true
  | a :: l, b :: m => sameT a b && sameL l m
  | _, _ => false
theorem sameL_iff : ∀ l m : List Tok, sameL l m = true ↔ l.length = m.length ∧ ∀ i (h : i < l.length) (h' : i < m.length), sameT l[i] m[i] = true
  | [], [] => by simp [sameL]
  | [], b :: m => by simp [sameL]
  | a :: l, [] => by simp [sameL]
  | a :: l, b :: m => by
    simp only [sameL, Bool.and_eq_true, sameL_iff l m, List.length_cons]
    constructor
    · rintro ⟨h1, h2, h3⟩
      refine ⟨by omega, fun i h h' => ?_⟩
      match i with
      | 0 => exact h1
      | i + 1 => exact h3 i (by omega) (by omega)
    · rintro ⟨h1, h2⟩
      exact ⟨h2 0 (by omega) (by omega), by omega, fun i h h' => h2 (i + 1) (by omega) (by omega)⟩
theorem sameT_no {a b : Tok} (h : sameT a b = false) : (a.kind != b.kind) = true ∨ ((a.kind != b.kind) = false ∧ (a.num != b.num) = true) ∨ ((a.kind != b.kind) = false ∧ (a.num != b.num) = false ∧ (!(a.text == b.text)) = true) := by
  unfold sameT at h
  cases h1 : a.kind == b.kind <;> cases h2 : a.num == b.num <;> cases h3 : a.text == b.text <;> simp_all
theorem sameT_yes {a b : Tok} (h : sameT a b = true) : (a.kind != b.kind) = false ∧ (a.num != b.num) = false ∧ (a.text == b.text) = true := by
  unfold sameT at h
  cases h1 : a.kind == b.kind <;> cases h2 : a.num == b.num <;> cases h3 : a.text == b.text <;> simp_all
theorem sameT_refl (a : Tok) : sameT a a = true := by unfold sameT; simp
theorem sameL_refl : ∀ l : List Tok, sameL l l = true
  | [] => rfl
  | a :: l => by simp [sameL, sameT_refl, sameL_refl l]

set_option maxRecDepth 100000 in
set_option maxHeartbeats 4000000 in
theorem ref7_Same_any (A B : Option Addr) (la lb : List Tok) (ca cb : Nat) (w : World) (ha : ToksAt w A la) (hb : ToksAt w B lb) (hla : la.length ≤ 1000000) (hlb : lb.length ≤ 1000000) :
    Calls Tryd.prog 20 #[.slice A la.length ca, .slice B lb.length cb] w fun e w' => e = .returned (.bool (sameL la lb)) ∧ Below w.heap.size w w' := by
  have hi := sameL_iff la lb
  by_cases hl : la.length = lb.length
  case neg =>
    have a1 : ((la.length : Int) != (lb.length : Int)) = true := by simp; omega
    have H := hide (show sameL la lb = false by
      cases h : sameL la lb
      · rfl
      · exact absurd (hi.1 h).1 hl)
    clear hi hl
    go_enter Tryd.func20, Tryd.ntmps20
    go_wp2
    go_ret
    exact ⟨ret_bool (by rw [H.out]), Below.refl _ _⟩
  have a1 : ((la.length : Int) != (lb.length : Int)) = false := by simp; omega
  have HI := hide hi; clear hi
  have HL := hide hl
  have hle1 : la.length ≤ lb.length := by omega
  have hle2 : lb.length ≤ la.length := by omega
  have HA := hide ha; have HB := hide hb
  clear hl ha hb
  go_enter Tryd.func20, Tryd.ntmps20
  go_wp2
  go_loopw [5] (fun i wr => ∃ (k n : Nat), k ≤ la.length ∧ i = .int .i64 k ∧ Hid (∀ i (h : i < la.length) (h' : i < lb.length), i < k → sameT la[i] lb[i] = true) ∧ wr = w.drewN n) (fun i _ => la.length - (intOf i).toNat)
  case atStart => exact ⟨0, 0, by omega, rfl, fun i _ _ h => absurd h (Nat.not_lt_zero _), rfl⟩
  case round =>
    obtain ⟨k, n, hk, rfl, HS, rfl⟩ := hrel
    by_cases hlt : k < la.length
    · have hlt2 : k < lb.length := by omega
      have HS' := hide (fun (hx : sameT la[k] lb[k] = true) => show ∀ i (h : i < la.length) (h' : i < lb.length), i < k + 1 → sameT la[i] lb[i] = true from fun i h h' hik => by
        by_cases e : i = k
        · subst e; exact hx
        · exact HS.out i h h' (by omega))
      have HNo := hide (fun (hx : sameT la[k] lb[k] = false) => show sameL la lb = false by
        cases h : sameL la lb
        · rfl
        · have := (HI.out.1 h).2 k hlt hlt2
          rw [hx] at this; cases this)
      rcases HA.out with h | ⟨ga, oa, rfl, hga, hca⟩
      · exact absurd hlt (by rw [h]; simp)
      rcases HB.out with h | ⟨gb, ob, rfl, hgb, hcb⟩
      · exact absurd hlt2 (by rw [h]; simp)
      obtain ⟨ca1, ca2, ca3, ca4⟩ := hca k hlt
      obtain ⟨cb1, cb2, cb3, cb4⟩ := hcb k hlt2
      clear hca hcb ca4 cb4
      generalize la[k] = x at *
      generalize lb[k] = y at *
      cases hs : sameT x y
      · have HE := hide (HNo.out hs)
        rcases sameT_no hs with e1 | ⟨e1, e2⟩ | ⟨e1, e2, e3⟩
        all_goals
          clear hs
          go_wp2
          go_big_quiet (fail)
          go_wp2
          go_ret
          exact ⟨ret_bool (by rw [HE.out]), below_drewN (below_drewN (Below.refl _ _) _) _⟩
      · have HS2 := hide (HS'.out hs)
        obtain ⟨e1, e2, e3⟩ := sameT_yes hs
        clear hs
        go_wp2
        go_big_quiet (fail)
        go_wp2
        exact ⟨⟨k + 1, _, by omega, by go_num, HS2, rfl⟩, by simp [intOf]; omega⟩
    · have HE := hide (show sameL la lb = true from HI.out.2 ⟨HL.out, fun i h h' => HS.out i h h' (by omega)⟩)
      go_wp2
      go_ret
      exact ⟨ret_bool (by rw [HE.out]), below_drewN (Below.refl _ _) _⟩

set_option maxRecDepth 100000 in
set_option maxHeartbeats 4000000 in
theorem law7_exact_any (A B : Option Addr) (l : List Tok) (ca cb : Nat) (w : World) (ha : ToksAt w A l) (hb : ToksAt w B l) (hl : l.length ≤ 1000000) :
    Calls Tryd.prog 22 #[.slice A l.length ca, .slice B l.length cb] w fun e w' => e = .returned (.bool true) ∧ Below w.heap.size w w' := by
  have HA := hide ha; have HB := hide hb
  clear ha hb
  have HR := hide (sameL_refl l)
  go_enter Tryd.func22, Tryd.ntmps22
  go_wp2_with fail
  refine (ref7_Same_any A B l l ca cb _ HA.out HB.out hl hl).mono ?_
  rintro e w1 ⟨rfl, hb1⟩
  rw [HR.out]
  have HA1 := hide (HA.out.below hb1); have HB1 := hide (HB.out.below hb1)
  clear HA HB
  go_wp2
  go_loopw [5] (fun i wr => ∃ (k n : Nat), k ≤ l.length ∧ i = .int .i64 k ∧ wr = w1.drewN n) (fun i _ => l.length - (intOf i).toNat)
  case atStart => exact ⟨0, 0, by omega, rfl, rfl⟩
  case round =>
    obtain ⟨k, n, hk, rfl, rfl⟩ := hrel
    by_cases hlt : k < l.length
    · rcases HA1.out with h | ⟨ga, oa, rfl, hga, hca⟩
      · exact absurd hlt (by rw [h]; simp)
      rcases HB1.out with h | ⟨gb, ob, rfl, hgb, hcb⟩
      · exact absurd hlt (by rw [h]; simp)
      obtain ⟨ca1, ca2, ca3, ca4⟩ := hca k hlt
      obtain ⟨cb1, cb2, cb3, cb4⟩ := hcb k hlt
      clear hca hcb ca1 ca2 ca3 cb1 cb2 cb3
      generalize l[k] = x at *
      have e1 : (x.off != x.off) = false := by simp
      go_wp2
      go_big_quiet (fail)
      go_wp2
      exact ⟨⟨k + 1, _, by omega, by go_num, rfl⟩, by simp [intOf]; omega⟩
    · go_wp2
      go_ret
      exact ⟨rfl, below_drewN hb1 _⟩

end Go.Proofs.YtedjahbieheeoaaDoor
