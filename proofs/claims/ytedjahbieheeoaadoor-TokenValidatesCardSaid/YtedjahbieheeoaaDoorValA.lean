/- Contract: ref5.IsName. -/
import Derived.Test.YtedjahbieheeoaaDoorVal
set_option linter.unusedVariables false
set_option linter.unusedSimpArgs false
namespace Go.Proofs.YtedjahbieheeoaaDoor
open Go.RowKit
theorem isNameB_long {m : Nat} {s : ByteArray} (h : m < s.size) : isNameB m (bs s) = false := by
  unfold isNameB
  rw [decide_eq_false (by rw [bs_length]; omega)]; rfl
theorem isNameB_nil {m : Nat} {s : ByteArray} (h : s.size = 0) : isNameB m (bs s) = false := by
  have : bs s = [] := List.eq_nil_of_length_eq_zero h
  rw [this]; simp [isNameB]
theorem isNameB_head {m : Nat} {s : ByteArray} (h : 0 < s.size) (hc : letB s[0] = false) : isNameB m (bs s) = false := by
  unfold isNameB
  have e : (bs s)[0]'h = s[0] := rfl
  cases hb : bs s with
  | nil => simp
  | cons c r =>
    have : c = s[0] := by rw [← e]; simp [hb]
    simp [this, hc]
theorem isNameB_bad {m : Nat} {s : ByteArray} {k : Nat} (h : k < s.size) (hc : wordB s[k] = false) : isNameB m (bs s) = false := by
  unfold isNameB
  have e : (bs s)[k]'h = s[k] := rfl
  cases hb : bs s with
  | nil => simp
  | cons c r =>
    have e2 : (c :: r)[k]'(by rw [← hb]; exact h) = s[k] := by rw [← e]; simp [hb]
    have : letB c = false ∨ r.all wordB = false := by
      cases k with
      | zero =>
        left
        have : c = s[0] := e2
        rw [this]; exact (wordB_no hc).1
      | succ k =>
        right
        rw [List.all_eq_false]
        exact ⟨s[k+1], by rw [← e2]; simp, by simp [hc]⟩
    rcases this with h | h <;> simp [h]
theorem isNameB_good {m : Nat} {s : ByteArray} (h0 : 0 < s.size) (h1 : s.size ≤ m) (hc : letB s[0] = true) (ha : ∀ k (hk : k < s.size), wordB s[k] = true) : isNameB m (bs s) = true := by
  unfold isNameB
  rw [decide_eq_true (by rw [bs_length]; omega)]
  have e : (bs s)[0]'h0 = s[0] := rfl
  cases hb : bs s with
  | nil => have : (bs s).length = 0 := by rw [hb]; rfl
           rw [bs_length] at this; omega
  | cons c r =>
    have e1 : c = s[0] := by rw [← e]; simp [hb]
    have : r.all wordB = true := by
      rw [List.all_eq_true]
      intro x hx
      obtain ⟨i, hi, rfl⟩ := List.mem_iff_getElem.1 hx
      have hk : i + 1 < s.size := by rw [← bs_length, hb]; simp; omega
      have e3 : (bs s)[i+1]'hk = s[i+1] := rfl
      have : r[i] = s[i+1] := by rw [← e3]; simp [hb]
      rw [this]; exact ha _ hk
    simp [e1, hc, this]
theorem letB_split {c : UInt8} (h : letB c = true) : 97 ≤ c.toNat ∧ c.toNat ≤ 122 := by
  unfold letB at h; simpa using h
set_option maxHeartbeats 1000000 in
theorem ref5_IsName_any (s : ByteArray) (w : World) :
    Calls Tryd.prog 67 #[.string s] w fun e w' => e = .returned (.bool (isNameB 24 (bs s))) ∧ w = w' := by
  by_cases h0 : s.size = 0
  · have HE := hide (isNameB_nil (m := 24) h0)
    have hlt : decide ((s.size : Int) < 1) = true := by simp; omega
    go_enter Tryd.func67, Tryd.ntmps67
    go_wp2
    go_ret
    exact ⟨ret_bool (by rw [HE.out]), rfl⟩
  by_cases h1 : 24 < s.size
  · have HE := hide (isNameB_long h1)
    have hlt : decide ((s.size : Int) < 1) = false := by simp; omega
    have hgt : decide (24 < (s.size : Int)) = true := by simp; omega
    go_enter Tryd.func67, Tryd.ntmps67
    go_wp2
    go_ret
    exact ⟨ret_bool (by rw [HE.out]), rfl⟩
  have hz : 0 < s.size := by omega
  have hlt : decide ((s.size : Int) < 1) = false := by simp; omega
  have hgt : decide (24 < (s.size : Int)) = false := by simp; omega
  cases hc : letB s[0] with
  | false =>
    have HE := hide (isNameB_head (m := 24) hz hc)
    unfold letB at hc
    by_cases hA : s[0].toNat < 97
    · have g1 : decide ((s[0].toNat : Int) < 97) = true := by simp; omega
      clear hc
      go_enter Tryd.func67, Tryd.ntmps67
      go_wp2
      go_ret
      exact ⟨ret_bool (by rw [HE.out]), rfl⟩
    · have g1 : decide ((s[0].toNat : Int) < 97) = false := by simp; omega
      have g3 : 122 < s[0].toNat := by simp at hc; omega
      have g2 : decide (122 < (s[0].toNat : Int)) = true := by simp; omega
      clear hc
      go_enter Tryd.func67, Tryd.ntmps67
      go_wp2
      go_ret
      exact ⟨ret_bool (by rw [HE.out]), rfl⟩
  | true =>
    have HC := hide hc
    have hc' := letB_split hc
    have g1 : decide ((s[0].toNat : Int) < 97) = false := by simp; omega
    have g2 : decide (122 < (s[0].toNat : Int)) = false := by simp; omega
    clear hc
    go_enter Tryd.func67, Tryd.ntmps67
    go_wp2
    clear g1 g2 hc' hlt hgt
    go_loop [3] (fun i => ∃ k : Nat, k ≤ s.size ∧ i = .int .i64 k ∧ Hid (∀ j (hj : j < s.size), j < k → wordB s[j] = true)) (fun i => s.size - (intOf i).toNat)
    case atStart => exact ⟨0, by omega, rfl, fun j _ h => absurd h (Nat.not_lt_zero _)⟩
    case round =>
      obtain ⟨k, hk, rfl, HN⟩ := hrel
      by_cases hlt : k < s.size
      · by_cases hw : wordB s[k] = true
        · have HN' := hide (show ∀ j (hj : j < s.size), j < k + 1 → wordB s[j] = true from fun j hj h => by
            by_cases e : j = k
            · subst e; exact hw
            · exact HN.out j hj (by omega))
          by_cases hA : 97 ≤ s[k].toNat ∧ s[k].toNat ≤ 122
          · clear hw
            go_wp2
            go_round
            case rel => exact ⟨k + 1, by omega, by go_num, HN'⟩
            case measure => simp [intOf]; omega
          · have hcs := wordB_cases hw
            clear hw
            by_cases hD : 48 ≤ s[k].toNat ∧ s[k].toNat ≤ 57
            · have hlt97 : s[k].toNat < 97 := by omega
              clear hcs hA
              go_wp2
              go_round
              case rel => exact ⟨k + 1, by omega, by go_num, HN'⟩
              case measure => simp [intOf]; omega
            · have h95 : s[k].toNat = 95 := by
                unfold letB digB at hcs
                simp at hcs
                omega
              clear hcs hA hD
              have hne : ((s[k].toNat : Int) != 95) = false := by simp; omega
              go_wp2
              go_round
              case rel => exact ⟨k + 1, by omega, by go_num, HN'⟩
              case measure => simp [intOf]; omega
        · have hw' : wordB s[k] = false := by simpa using hw
          have HE := hide (isNameB_bad (m := 24) hlt hw')
          obtain ⟨n1, n2, n3⟩ := wordB_no hw'
          have hne : ((s[k].toNat : Int) != 95) = true := by simp at n3 ⊢; omega
          unfold letB at n1
          unfold digB at n2
          simp at n1 n2
          clear hw hw' n3
          by_cases hA : s[k].toNat < 48
          · have hB : s[k].toNat < 97 := by omega
            clear n1 n2
            go_wp2
            go_ret
            exact ⟨ret_bool (by rw [HE.out]), rfl⟩
          · have hC : 57 < s[k].toNat := by omega
            have d57 : decide ((s[k].toNat : Int) ≤ 57) = false := by simp; omega
            by_cases hB : s[k].toNat < 97
            · clear n1 n2
              go_wp2
              go_ret
              exact ⟨ret_bool (by rw [HE.out]), rfl⟩
            · have hD : 122 < s[k].toNat := by omega
              have d122 : decide ((s[k].toNat : Int) ≤ 122) = false := by simp; omega
              clear n1 n2
              go_wp2
              go_ret
              exact ⟨ret_bool (by rw [HE.out]), rfl⟩
      · have HE := hide (isNameB_good (m := 24) hz (by omega) HC.out fun j hj => HN.out j hj (by omega))
        go_wp2
        go_ret
        exact ⟨ret_bool (by rw [HE.out]), rfl⟩
end Go.Proofs.YtedjahbieheeoaaDoor
