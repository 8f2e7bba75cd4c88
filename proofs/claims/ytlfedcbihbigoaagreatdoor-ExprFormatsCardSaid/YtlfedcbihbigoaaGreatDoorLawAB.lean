/- Contracts of the comparers of tokens. Contracts: reserved words; the comparison of the two splitters; the law's sanity check. -/
import Derived.Test.YtlfedcbihbigoaaGreatDoorTokF
import Derived.Test.YtlfedcbihbigoaaGreatDoorRefDG
set_option linter.unusedVariables false
set_option linter.unusedSimpArgs false
namespace Go.Proofs.YtlfedcbihbigoaaGreatDoor
open Go.RowKit

/-- A slice that reads as a list of tokens. -/
def ToksAt (w : World) (A : Option Addr) (ts : List Tok) : Prop :=
  ts = [] ∨ ∃ g off, A = some ⟨g, off, none⟩ ∧ g < w.heap.size ∧ ∀ i (h : i < ts.length),
    w.cell? ⟨g, off + i * 4, none⟩ = some (.int .i64 ts[i].kind) ∧ w.cell? ⟨g, off + i * 4 + 1, none⟩ = some (str ts[i].text) ∧
    w.cell? ⟨g, off + i * 4 + 2, none⟩ = some (.int .i64 ts[i].num) ∧ w.cell? ⟨g, off + i * 4 + 3, none⟩ = some (.int .i64 ts[i].off)
theorem tokCells_get : ∀ (ts : List Tok) (i : Nat) (h : i < ts.length), (tokCells ts)[i * 4]? = some (.int .i64 ts[i].kind) ∧ (tokCells ts)[i * 4 + 1]? = some (str ts[i].text) ∧ (tokCells ts)[i * 4 + 2]? = some (.int .i64 ts[i].num) ∧ (tokCells ts)[i * 4 + 3]? = some (.int .i64 ts[i].off)
  | [], i, h => by simp at h
  | t :: ts, 0, _ => ⟨rfl, rfl, rfl, rfl⟩
  | t :: ts, i + 1, h => by
    obtain ⟨h1, h2, h3, h4⟩ := tokCells_get ts i (by simpa using h)
    have e : ∀ j, (tokCells (t :: ts))[(i + 1) * 4 + j]? = (tokCells ts)[i * 4 + j]? := by
      intro j
      rw [show tokCells (t :: ts) = t.cells ++ tokCells ts from rfl, List.getElem?_append_right (by simp [Tok.cells]; omega)]
      congr 1
      simp [Tok.cells]; omega
    exact ⟨by simpa using (e 0).trans h1, (e 1).trans h2, (e 2).trans h3, (e 3).trans h4⟩
theorem ToksAt_of_own {w : World} {base e c : Nat} {A : Option Addr} {ts : List Tok} (h : w.ownsRow base e 4 (.slice A ts.length c) ts.length (tokCells ts)) : ToksAt w A ts := by
  rcases h.2 with ⟨_, hn⟩ | ⟨g, cap, cur, hv, hg, hh, hnc, hcap, hsz, htk⟩
  · exact .inl (List.eq_nil_of_length_eq_zero hn)
  · injection hv with h1 h2 h3
    subst h1
    refine .inr ⟨g, 0, rfl, lt_of_heap hh, fun i hi => ?_⟩
    have hc : ∀ j, j < ts.length * 4 → w.cell? ⟨g, j, none⟩ = (tokCells ts)[j]? := fun j hj => World.ownsRow.cellAt h j hj
    obtain ⟨h1, h2, h3, h4⟩ := tokCells_get ts i hi
    simp only [Nat.zero_add]
    exact ⟨(hc _ (by omega)).trans h1, (hc _ (by omega)).trans h2, (hc _ (by omega)).trans h3, (hc _ (by omega)).trans h4⟩
theorem ToksAt.below {w w' : World} {A : Option Addr} {ts : List Tok} (h : ToksAt w A ts) (hb : Below w.heap.size w w') : ToksAt w' A ts := by
  rcases h with h | ⟨g, off, hA, hg, hc⟩
  · exact .inl h
  · refine .inr ⟨g, off, hA, Nat.lt_of_lt_of_le hg hb.size, fun i hi => ?_⟩
    obtain ⟨h1, h2, h3, h4⟩ := hc i hi
    exact ⟨(hb.cell (p := ⟨g, _, none⟩) hg).trans h1, (hb.cell (p := ⟨g, _, none⟩) hg).trans h2, (hb.cell (p := ⟨g, _, none⟩) hg).trans h3, (hb.cell (p := ⟨g, _, none⟩) hg).trans h4⟩

def sameT (a b : Tok) : Bool := (a.kind == b.kind) && (a.num == b.num) && (a.text == b.text)
def sameL : List Tok → List Tok → Bool
  | [], [] => true
  | a :: l, b :: m => sameT a b && sameL l m
  | _, _ => false
theorem sameL_iff : ∀ l m : List Tok, sameL l m = true ↔ l.length = m.length ∧ ∀ i (h : i < l.length) (h' : i < m.length), sameT l[i] m[i] = true
  | [], [] => by simp [sameL]
  | [], b :: m => by simp [sameL]
  | a :: l, [] => by simp [sameL]
  | a :: l, b :: m => by
    simp only [sameL, Bool.and_eq_true, sameL_iff l m, List.length_cons]
    constructor
    · rintro ⟨h1, h2, h3⟩
      refine ⟨by omega, fun i h h' => ?_⟩
      match i with
      | 0 => exact h1
      | i + 1 => exact h3 i (by omega) (by omega)
    · rintro ⟨h1, h2⟩
      exact ⟨h2 0 (by omega) (by omega), by omega, fun i h h' => h2 (i + 1) (by omega) (by omega)⟩
theorem sameT_no {a b : Tok} (h : sameT a b = false) : (a.kind != b.kind) = true ∨ ((a.kind != b.kind) = false ∧ (a.num != b.num) = true) ∨ ((a.kind != b.kind) = false ∧ (a.num != b.num) = false ∧ (!(a.text == b.text)) = true) := by
  unfold sameT at h
  cases h1 : a.kind == b.kind <;> cases h2 : a.num == b.num <;> cases h3 : a.text == b.text <;> simp_all
theorem sameT_yes {a b : Tok} (h : sameT a b = true) : (a.kind != b.kind) = false ∧ (a.num != b.num) = false ∧ (a.text == b.text) = true := by
  unfold sameT at h
  cases h1 : a.kind == b.kind <;> cases h2 : a.num == b.num <;> cases h3 : a.text == b.text <;> simp_all
theorem sameT_refl (a : Tok) : sameT a a = true := by unfold sameT; simp
theorem sameL_refl : ∀ l : List Tok, sameL l l = true
  | [] => rfl
  | a :: l => by simp [sameL, sameT_refl, sameL_refl l]

end Go.Proofs.YtlfedcbihbigoaaGreatDoor

namespace Go.Proofs.YtlfedcbihbigoaaGreatDoor
open Go.RowKit

def wordsV : List ByteArray := wordsS.map fun l => ⟨l.toArray⟩
def hasB (ls : List Bytes) (x : Bytes) : Bool := ls.contains x
def resB (l : Bytes) : Bool := hasB wordsS l
theorem containsS_map (ls : List Bytes) (x : ByteArray) : Lib.containsS (ls.map fun l => (⟨l.toArray⟩ : ByteArray)) x = hasB ls (bs x) := by
  unfold hasB
  rw [Bool.eq_iff_iff, Lib.containsS_iff, List.contains_iff_mem, List.mem_map]
  constructor
  · rintro ⟨l, h, rfl⟩; exact h
  · intro h; exact ⟨bs x, h, mk_bs x⟩
theorem splitGo_count : ∀ (f : Nat) (l : Bytes) (i : Nat) (ts : List Tok), splitGo f l i = .ok ts → ts.length ≤ f + 1
  | 0, l, i, ts, h => by injection h with h; subst h; simp
  | f + 1, [], i, ts, h => by injection h with h; subst h; simp
  | f + 1, c :: r, i, ts, h => by
    rw [splitGo_cons] at h
    split at h
    · have := splitGo_count f _ _ _ h; omega
    · split at h
      · have := splitGo_count f _ _ _ h; omega
      · split at h
        · cases h
        · split at h
          · cases h
          · rename_i ts' hg
            injection h with h
            subst h
            have := splitGo_count f _ _ _ hg
            simp; omega
theorem splitS_count {l : Bytes} {ts : List Tok} (h : splitS l = .ok ts) : ts.length ≤ 65537 := by
  unfold splitS at h
  split at h
  · cases h
  · have := splitGo_count _ _ _ _ h; omega

set_option maxHeartbeats 1000000 in
theorem token_Reserved_w (s : ByteArray) (w : World) (hW : StrVar w 1 wordsS) : Calls Tryz.prog 90 #[.string s] w fun e w' => e = .returned (.bool (resB (bs s))) ∧ w = w' := by
  obtain ⟨hg, b, off, cp, hb, hv, hcells⟩ := hW
  have hl8 : wordsS.length = 8 := rfl
  rw [hl8] at hv hcells
  have HC := hide hcells; clear hcells hl8
  go_enter Tryz.func90, Tryz.ntmps90
  go_wp2_with fail
  refine (Tryz.slices_Contains_string b off 8 cp wordsV s _ (by decide) (by decide) (fun j hj => ?_)).mono ?_
  · have hj' : j < 8 := hj
    rw [HC.out j hj']
    match j, hj' with
    | 0, _ => rfl
    | 1, _ => rfl
    | 2, _ => rfl
    | 3, _ => rfl
    | 4, _ => rfl
    | 5, _ => rfl
    | 6, _ => rfl
    | 7, _ => rfl
  rintro e w' ⟨rfl, rfl⟩
  have HE := hide (show Lib.containsS (wordsV.take 8) s = resB (bs s) from containsS_map wordsS s)
  go_wp2
  go_ret
  exact ⟨ret_bool (by rw [← HE.out]), rfl⟩

theorem token_Reserved_any (s : ByteArray) (w : World) (hG : Glob w) : Calls Tryz.prog 90 #[.string s] w fun e w' => e = .returned (.bool (resB (bs s))) ∧ w = w' := token_Reserved_w s w hG.words

/-! ### ref5.Has -/
/-- A slice that reads as a list of strings. -/
def StrsAt (w : World) (A : Option Addr) (ls : List Bytes) : Prop :=
  ls = [] ∨ ∃ g off, A = some ⟨g, off, none⟩ ∧ g < w.heap.size ∧ ∀ i (h : i < ls.length), w.cell? ⟨g, off + i, none⟩ = some (str ls[i])
theorem StrsAt.below {w w' : World} {A : Option Addr} {ls : List Bytes} (h : StrsAt w A ls) (hb : Below w.heap.size w w') : StrsAt w' A ls := by
  rcases h with h | ⟨g, off, hA, hg, hc⟩
  · exact .inl h
  · exact .inr ⟨g, off, hA, Nat.lt_of_lt_of_le hg hb.size, fun i hi => (hb.cell (p := ⟨g, _, none⟩) hg).trans (hc i hi)⟩
theorem has_hit {ls : List Bytes} {x : Bytes} {k : Nat} (hk : k < ls.length) (h : ls[k] = x) : hasB ls x = true := by
  unfold hasB
  rw [List.contains_iff_mem]; exact h ▸ List.getElem_mem hk
theorem has_none {ls : List Bytes} {x : Bytes} (h : ∀ i (hi : i < ls.length), ls[i] ≠ x) : hasB ls x = false := by
  unfold hasB
  cases hc : ls.contains x
  · rfl
  · rw [List.contains_iff_mem, List.mem_iff_getElem] at hc
    obtain ⟨i, hi, e⟩ := hc
    exact absurd e (h i hi)
set_option maxHeartbeats 1000000 in
theorem ref5_Has_any (A : Option Addr) (ls : List Bytes) (c : Nat) (s : ByteArray) (w : World) (ha : StrsAt w A ls) (hl : ls.length ≤ 1000000) :
    Calls Tryz.prog 107 #[.slice A ls.length c, .string s] w fun e w' => e = .returned (.bool (hasB ls (bs s))) ∧ w = w' := by
  have HA := hide ha; clear ha
  go_enter Tryz.func107, Tryz.ntmps107
  go_wp2
  go_loop [5] (fun i => ∃ k : Nat, k ≤ ls.length ∧ i = .int .i64 k ∧ Hid (∀ i (hi : i < ls.length), i < k → ls[i] ≠ bs s)) (fun i => ls.length - (intOf i).toNat)
  case atStart => exact ⟨0, by omega, rfl, fun i _ h => absurd h (Nat.not_lt_zero _)⟩
  case round =>
    obtain ⟨k, hk, rfl, HN⟩ := hrel
    by_cases hlt : k < ls.length
    · rcases HA.out with h | ⟨g, off, rfl, hg, hc⟩
      · exact absurd hlt (by rw [h]; simp)
      have hx := hc k hlt
      clear hc
      by_cases he : ls[k] = bs s
      · have HE := hide (has_hit hlt he)
        have hb : (ls[k] == s.toList) = true := by rw [ByteArray.toList_eq]; simp [he, bs]
        clear he
        generalize ls[k] = x at *
        go_wp2
        go_ret
        exact ⟨ret_bool (by rw [HE.out]), rfl⟩
      · have HN' := hide (show ∀ i (hi : i < ls.length), i < k + 1 → ls[i] ≠ bs s from fun i hi h => by
          by_cases e : i = k
          · subst e; exact he
          · exact HN.out i hi (by omega))
        have hb : (ls[k] == s.toList) = false := by rw [ByteArray.toList_eq]; simpa [bs] using he
        clear he
        generalize ls[k] = x at *
        go_wp2
        go_round
        case rel => exact ⟨k + 1, by omega, by go_num, HN'⟩
        case measure => simp [intOf]; omega
    · have HE := hide (has_none (x := bs s) fun i hi => HN.out i hi (by omega))
      go_wp2
      go_ret
      exact ⟨ret_bool (by rw [HE.out]), rfl⟩

set_option maxHeartbeats 1000000 in
theorem ref7_Reserved_any (s : ByteArray) (w : World) : Calls Tryz.prog 106 #[.string s] w fun e w' => e = .returned (.bool (resB (bs s))) ∧ Below w.heap.size w w' := by
  go_enter Tryz.func106, Tryz.ntmps106
  go_wp2_with fail
  refine (ref5_Has_any _ wordsS 8 s _ (.inr ⟨w.heap.size, 0, rfl, by simp, fun i hi => ?_⟩) (by decide)).mono ?_
  · have hi' : i < 8 := hi
    rw [cell_of_heap (heap_alloc_new w _)]
    match i, hi' with
    | 0, _ => rfl
    | 1, _ => rfl
    | 2, _ => rfl
    | 3, _ => rfl
    | 4, _ => rfl
    | 5, _ => rfl
    | 6, _ => rfl
    | 7, _ => rfl
  rintro e w' ⟨rfl, rfl⟩
  have HE := hide (show hasB wordsS (bs s) = resB (bs s) from rfl)
  go_wp2
  go_ret
  exact ⟨ret_bool (by rw [← HE.out]), by (repeat (first | exact Below.refl _ _ | assumption | refine Below.drew ?_ | refine below_drewN ?_ _ | refine Below.alloc ?_ (by first | omega | simp <;> omega) _ | refine Below.setCell ?_ (by first | omega | simp <;> omega) _))⟩

end Go.Proofs.YtlfedcbihbigoaaGreatDoor
