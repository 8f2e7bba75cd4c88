/- Contracts: reserved words; the comparison of the two splitters; the law's sanity check. -/
import Derived.Test.YtlfedcbihbigoaaDoorRefG
import Derived.Test.YtlfedcbihbigoaaDoorLawA
set_option linter.unusedVariables false
set_option linter.unusedSimpArgs false
namespace Go.Proofs.YtlfedcbihbigoaaDoor
open Go.RowKit

def wordsV : List ByteArray := wordsS.map fun l => ⟨l.toArray⟩
def hasB (ls : List Bytes) (x : Bytes) : Bool := ls.contains x
def resB (l : Bytes) : Bool := hasB wordsS l
theorem containsS_map (ls : List Bytes) (x : ByteArray) : Lib.containsS (ls.map fun l => (⟨l.toArray⟩ : ByteArray)) x = hasB ls (bs x) := by
  unfold hasB
  rw [Bool.eq_iff_iff, Lib.containsS_iff, List.contains_iff_mem, List.mem_map]
  constructor
  · rintro ⟨l, h, rfl⟩; exact h
  · intro h; exact ⟨bs x, h, mk_bs x⟩
theorem splitGo_count : ∀ (f : Nat) (l : Bytes) (i : Nat) (ts : List Tok), splitGo f l i = .ok ts → ts.length ≤ f + 1
  | 0, l, i, ts, h => by injection h with h; subst h; simp
  | f + 1, [], i, ts, h => by injection h with h; subst h; simp
  | f + 1, c :: r, i, ts, h => by
    rw [splitGo_cons] at h
    split at h
    · have := splitGo_count f _ _ _ h; omega
    · split at h
      · have := splitGo_count f _ _ _ h; omega
      · split at h
        · cases h
        · split at h
          · cases h
          · rename_i ts' hg
            injection h with h
            subst h
            have := splitGo_count f _ _ _ hg
            simp; omega
theorem splitS_count {l : Bytes} {ts : List Tok} (h : splitS l = .ok ts) : ts.length ≤ 65537 := by
  unfold splitS at h
  split at h
  · cases h
  · have := splitGo_count _ _ _ _ h; omega

set_option maxHeartbeats 1000000 in
theorem token_Reserved_w (s : ByteArray) (w : World) (hW : StrVar w 0 wordsS) : Calls Tryd.prog 39 #[.string s] w fun e w' => e = .returned (.bool (resB (bs s))) ∧ w = w' := by
  obtain ⟨hg, b, off, cp, hb, hv, hcells⟩ := hW
  have hl8 : wordsS.length = 8 := rfl
  rw [hl8] at hv hcells
  have HC := hide hcells; clear hcells hl8
  go_enter Tryd.func39, Tryd.ntmps39
  go_wp2_with fail
  refine (Tryd.slices_Contains_string b off 8 cp wordsV s _ (by decide) (by decide) (fun j hj => ?_)).mono ?_
  · have hj' : j < 8 := hj
    rw [HC.out j hj']
    match j, hj' with
    | 0, _ => rfl
    | 1, _ => rfl
    | 2, _ => rfl
    | 3, _ => rfl
    | 4, _ => rfl
    | 5, _ => rfl
    | 6, _ => rfl
    | 7, _ => rfl
  rintro e w' ⟨rfl, rfl⟩
  have HE := hide (show Lib.containsS (wordsV.take 8) s = resB (bs s) from containsS_map wordsS s)
  go_wp2
  go_ret
  exact ⟨ret_bool (by rw [← HE.out]), rfl⟩

/-! ### ref5.Has -/
/-- A slice that reads as a list of strings. -/
def StrsAt (w : World) (A : Option Addr) (ls : List Bytes) : Prop :=
  ls = [] ∨ ∃ g off, A = some ⟨g, off, none⟩ ∧ g < w.heap.size ∧ ∀ i (h : i < ls.length), w.cell? ⟨g, off + i, none⟩ = some (str ls[i])
theorem StrsAt.below {w w' : World} {A : Option Addr} {ls : List Bytes} (h : StrsAt w A ls) (hb : Below w.heap.size w w') : StrsAt w' A ls := by
  rcases h with h | ⟨g, off, hA, hg, hc⟩
  · exact .inl h
  · exact .inr ⟨g, off, hA, Nat.lt_of_lt_of_le hg hb.size, fun i hi => (hb.cell (p := ⟨g, _, none⟩) hg).trans (hc i hi)⟩
theorem has_hit {ls : List Bytes} {x : Bytes} {k : Nat} (hk : k < ls.length) (h : ls[k] = x) : hasB ls x = true := by
  unfold hasB
  rw [List.contains_iff_mem]; exact h ▸ List.getElem_mem hk
theorem has_none {ls : List Bytes} {x : Bytes} (h : ∀ i (hi : i < ls.length), ls[i] ≠ x) : hasB ls x = false := by
  unfold hasB
  cases hc : ls.contains x
  · rfl
  · rw [List.contains_iff_mem, List.mem_iff_getElem] at hc
    obtain ⟨i, hi, e⟩ := hc
    exact absurd e (h i hi)
set_option maxHeartbeats 1000000 in
theorem ref5_Has_any (A : Option Addr) (ls : List Bytes) (c : Nat) (s : ByteArray) (w : World) (ha : StrsAt w A ls) (hl : ls.length ≤ 1000000) :
    Calls Tryd.prog 57 #[.slice A ls.length c, .string s] w fun e w' => e = .returned (.bool (hasB ls (bs s))) ∧ w = w' := by
  have HA := hide ha; clear ha
  go_enter Tryd.func57, Tryd.ntmps57
  go_wp2
  go_loop [5] (fun i => ∃ k : Nat, k ≤ ls.length ∧ i = .int .i64 k ∧ Hid (∀ i (hi : i < ls.length), i < k → ls[i] ≠ bs s)) (fun i => ls.length - (intOf i).toNat)
  case atStart => exact ⟨0, by omega, rfl, fun i _ h => absurd h (Nat.not_lt_zero _)⟩
  case round =>
    obtain ⟨k, hk, rfl, HN⟩ := hrel
    by_cases hlt : k < ls.length
    · rcases HA.out with h | ⟨g, off, rfl, hg, hc⟩
      · exact absurd hlt (by rw [h]; simp)
      have hx := hc k hlt
      clear hc
      by_cases he : ls[k] = bs s
      · have HE := hide (has_hit hlt he)
        have hb : (ls[k] == s.toList) = true := by rw [ByteArray.toList_eq]; simp [he, bs]
        clear he
        generalize ls[k] = x at *
        go_wp2
        go_ret
        exact ⟨ret_bool (by rw [HE.out]), rfl⟩
      · have HN' := hide (show ∀ i (hi : i < ls.length), i < k + 1 → ls[i] ≠ bs s from fun i hi h => by
          by_cases e : i = k
          · subst e; exact he
          · exact HN.out i hi (by omega))
        have hb : (ls[k] == s.toList) = false := by rw [ByteArray.toList_eq]; simpa [bs] using he
        clear he
        generalize ls[k] = x at *
        go_wp2
        go_round
        case rel => exact ⟨k + 1, by omega, by go_num, HN'⟩
        case measure => simp [intOf]; omega
    · have HE := hide (has_none (x := bs s) fun i hi => HN.out i hi (by omega))
      go_wp2
      go_ret
      exact ⟨ret_bool (by rw [HE.out]), rfl⟩

set_option maxHeartbeats 1000000 in
theorem ref7_Reserved_any (s : ByteArray) (w : World) : Calls Tryd.prog 55 #[.string s] w fun e w' => e = .returned (.bool (resB (bs s))) ∧ Below w.heap.size w w' := by
  go_enter Tryd.func55, Tryd.ntmps55
  go_wp2_with fail
  refine (ref5_Has_any _ wordsS 8 s _ (.inr ⟨w.heap.size, 0, rfl, by simp, fun i hi => ?_⟩) (by decide)).mono ?_
  · have hi' : i < 8 := hi
    rw [cell_of_heap (heap_alloc_new w _)]
    match i, hi' with
    | 0, _ => rfl
    | 1, _ => rfl
    | 2, _ => rfl
    | 3, _ => rfl
    | 4, _ => rfl
    | 5, _ => rfl
    | 6, _ => rfl
    | 7, _ => rfl
  rintro e w' ⟨rfl, rfl⟩
  have HE := hide (show hasB wordsS (bs s) = resB (bs s) from rfl)
  go_wp2
  go_ret
  exact ⟨ret_bool (by rw [← HE.out]), by (repeat (first | exact Below.refl _ _ | assumption | refine Below.drew ?_ | refine below_drewN ?_ _ | refine Below.alloc ?_ (by first | omega | (simp; done) | (simp; omega)) _ | refine Below.setCell ?_ (by first | omega | (simp; done) | (simp; omega)) _))⟩

end Go.Proofs.YtlfedcbihbigoaaDoor
