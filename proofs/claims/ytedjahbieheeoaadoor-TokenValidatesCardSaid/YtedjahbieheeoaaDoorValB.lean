/- Contract: schema.IsName (a range over a string's runes). -/
import Derived.Test.YtedjahbieheeoaaDoorValA
import Derived.Laws.RangeString
import Derived.Laws.RangeAny
set_option linter.unusedVariables false
set_option linter.unusedSimpArgs false
namespace Go.Proofs.YtedjahbieheeoaaDoor
open Go.RowKit
def NameRel (s : ByteArray) (pos : Nat) : Prop := (∀ (h : 0 < s.size), 0 < pos → letB s[0] = true) ∧ ∀ j (hj : j < s.size), j < pos → wordB s[j] = true
theorem NameRel_start (s : ByteArray) : NameRel s 0 := ⟨fun _ h => absurd h (Nat.not_lt_zero _), fun _ _ h => absurd h (Nat.not_lt_zero _)⟩
theorem letB_mk {c : UInt8} (h : 97 ≤ c.toNat ∧ c.toNat ≤ 122) : letB c = true := by unfold letB; simp; exact h
theorem letB_not {c : UInt8} (h : ¬ (97 ≤ c.toNat ∧ c.toNat ≤ 122)) : letB c = false := by
  cases hc : letB c
  · rfl
  · exact absurd (letB_split hc) h
theorem wordB_mk {c : UInt8} (h : letB c = true ∨ c.toNat = 95 ∨ (48 ≤ c.toNat ∧ c.toNat ≤ 57)) : wordB c = true := by
  unfold wordB
  rcases h with h | h | h
  · rw [h]; rfl
  · simp [h]
  · unfold digB; simp [h.1, h.2]
theorem wordB_not {c : UInt8} (h : letB c = false) (h2 : ¬ c.toNat = 95) (h3 : ¬ (48 ≤ c.toNat ∧ c.toNat ≤ 57)) : wordB c = false := by
  unfold wordB digB
  rw [h]
  simp
  exact ⟨by omega, h2⟩
theorem NameRel_step {s : ByteArray} {pos : Nat} (h : NameRel s pos) (hp : pos < s.size) (hw : wordB s[pos] = true) (h0 : pos = 0 → letB s[pos] = true) : NameRel s (pos + 1) := by
  refine ⟨fun h1 _ => ?_, fun j hj h1 => ?_⟩
  · by_cases e : pos = 0
    · subst e; exact h0 rfl
    · exact h.1 h1 (by omega)
  · by_cases e : j = pos
    · subst e; exact hw
    · exact h.2 j hj (by omega)
theorem NameRel_end {s : ByteArray} (h : NameRel s s.size) (h1 : ¬ 24 < s.size) : isNameB 24 (bs s) = !s.toList.isEmpty := by
  by_cases h0 : s.size = 0
  · rw [isNameB_nil h0]
    have : s.toList = [] := by rw [ByteArray.toList_eq]; exact List.eq_nil_of_length_eq_zero h0
    rw [this]; rfl
  · rw [isNameB_good (by omega) (by omega) (h.1 (by omega) (by omega)) fun k hk => h.2 k hk hk]
    have : s.toList ≠ [] := by
      rw [ByteArray.toList_eq]; intro e
      have : s.data.toList.length = 0 := by rw [e]; rfl
      exact h0 this
    cases hs : s.toList with
    | nil => exact absurd hs this
    | cons => rfl
theorem iter_below (w : World) (s : ByteArray) (pos : Nat) : Below w.heap.size w (w.iter s pos) := (Below.refl _ _).alloc (Nat.le_refl _) _
set_option maxHeartbeats 2000000 in
theorem schema_IsName_any (s : ByteArray) (w : World) :
    Calls Tryd.prog 66 #[.string s] w fun e w' => e = .returned (.bool (isNameB 24 (bs s))) ∧ Below w.heap.size w w' := by
  by_cases h1 : 24 < s.size
  · have HE := hide (isNameB_long h1)
    have hgt : decide (24 < (s.size : Int)) = true := by simp; omega
    go_enter Tryd.func66, Tryd.ntmps66
    go_wp2
    go_ret
    exact ⟨ret_bool (by rw [HE.out]), Below.refl _ _⟩
  have hgt : decide (24 < (s.size : Int)) = false := by simp; omega
  go_enter Tryd.func66, Tryd.ntmps66
  go_wp2
  clear hgt
  go_loopw [3] (fun n w' => ∃ (pos : Nat), w' = w.iter s pos ∧ pos ≤ s.size ∧ Hid (NameRel s pos)) (fun _ w' => s.size - w'.iterPos w.heap.size)
  case atStart => exact ⟨0, rfl, by omega, NameRel_start s⟩
  case round =>
    obtain ⟨pos, rfl, hk, HN⟩ := hrel
    by_cases hlt : pos < s.size
    · by_cases ha : (s[pos]).toNat < 128
      · have hnx := fun ty => run_next_ascii (P := Tryd.prog) w s pos ty hlt ha
        by_cases hA : 97 ≤ s[pos].toNat ∧ s[pos].toNat ≤ 122
        · have HN' := hide (NameRel_step HN.out hlt (wordB_mk (.inl (letB_mk hA))) fun _ => letB_mk hA)
          go_wp2
          exact ⟨⟨pos + 1, rfl, by omega, HN'⟩, by simp; omega⟩
        · have hl := letB_not hA
          by_cases h0 : pos = 0
          · subst h0
            have HE := hide (isNameB_head (m := 24) hlt hl)
            clear hl
            by_cases hB : s[0].toNat < 97
            · clear hA
              go_wp2
              go_ret
              exact ⟨ret_bool (by rw [HE.out]), iter_below _ _ _⟩
            · have hC : 122 < s[0].toNat := by omega
              have d122 : decide ((s[0].toNat : Int) ≤ 122) = false := by simp; omega
              clear hA
              go_wp2
              go_ret
              exact ⟨ret_bool (by rw [HE.out]), iter_below _ _ _⟩
          · have hp0 : ((pos : Int) == 0) = false := by simp; omega
            by_cases h95 : s[pos].toNat = 95
            · have HN' := hide (NameRel_step HN.out hlt (wordB_mk (.inr (.inl h95))) fun e => absurd e h0)
              have hne : ((s[pos].toNat : Int) != 95) = false := by simp; omega
              have hB : s[pos].toNat < 97 := by omega
              clear hA hl h95
              go_wp2
              exact ⟨⟨pos + 1, rfl, by omega, HN'⟩, by simp; omega⟩
            · have hne : ((s[pos].toNat : Int) != 95) = true := by simp; omega
              by_cases hD : 48 ≤ s[pos].toNat ∧ s[pos].toNat ≤ 57
              · have HN' := hide (NameRel_step HN.out hlt (wordB_mk (.inr (.inr hD))) fun e => absurd e h0)
                have hB : s[pos].toNat < 97 := by omega
                clear hA hl h95
                go_wp2
                exact ⟨⟨pos + 1, rfl, by omega, HN'⟩, by simp; omega⟩
              · have HE := hide (isNameB_bad (m := 24) hlt (wordB_not hl h95 hD))
                clear hl h95
                by_cases hB : s[pos].toNat < 48
                · have hB2 : s[pos].toNat < 97 := by omega
                  clear hA hD
                  go_wp2
                  go_ret
                  exact ⟨ret_bool (by rw [HE.out]), iter_below _ _ _⟩
                · have hC : 57 < s[pos].toNat := by omega
                  by_cases hB2 : s[pos].toNat < 97
                  · clear hA hD
                    go_wp2
                    go_ret
                    exact ⟨ret_bool (by rw [HE.out]), iter_below _ _ _⟩
                  · have hC2 : 122 < s[pos].toNat := by omega
                    have d122 : decide ((s[pos].toNat : Int) ≤ 122) = false := by simp; omega
                    clear hA hD
                    go_wp2
                    go_ret
                    exact ⟨ret_bool (by rw [HE.out]), iter_below _ _ _⟩
      · have hnx := fun ty => run_next_any (P := Tryd.prog) w s pos ty hlt
        obtain ⟨hd1, hd2⟩ := decode_high s pos hlt (by omega)
        have hl : letB s[pos] = false := letB_not (by omega)
        have HE := hide (isNameB_bad (m := 24) hlt (wordB_not hl (by omega) (by omega)))
        have d122 : decide (((Utf8.decode s pos).1 : Int) ≤ 122) = false := by simp; omega
        have hne : (((Utf8.decode s pos).1 : Int) != 95) = true := by simp; omega
        clear hl ha
        generalize Utf8.decode s pos = d at *
        by_cases h0 : pos = 0
        · subst h0
          go_wp2
          go_ret
          exact ⟨ret_bool (by rw [HE.out]), iter_below _ _ _⟩
        · have hp0 : ((pos : Int) == 0) = false := by simp; omega
          go_wp2
          go_ret
          exact ⟨ret_bool (by rw [HE.out]), iter_below _ _ _⟩
    · obtain rfl : pos = s.size := by omega
      have hnx := fun ty => run_next_end (P := Tryd.prog) w s s.size ty hlt
      have HE := hide (NameRel_end HN.out h1)
      go_wp2
      go_ret
      exact ⟨ret_bool (by rw [HE.out]), iter_below _ _ _⟩
end Go.Proofs.YtedjahbieheeoaaDoor
