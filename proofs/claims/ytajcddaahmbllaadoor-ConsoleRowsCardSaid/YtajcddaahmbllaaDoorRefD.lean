/- Contracts of the reference's reader of symbols and of its skipper. -/
import Derived.Test.YtajcddaahmbllaaDoorTokE
import Derived.Test.YtajcddaahmbllaaDoorSplitS
import Derived.Deep.LoopGhost
set_option linter.unusedVariables false
set_option linter.unusedSimpArgs false
namespace Go.Proofs.YtajcddaahmbllaaDoor
open Go.RowKit

theorem blank_yes' {c : UInt8} (h : blankB c = true) : ((c.toNat : Int) == 32) = true ∨ (((c.toNat : Int) == 32) = false ∧ ((c.toNat : Int) == 9) = true) ∨ (((c.toNat : Int) == 32) = false ∧ ((c.toNat : Int) == 9) = false ∧ ((c.toNat : Int) == 10) = true) := by
  unfold blankB at h; simp at h; simp; omega
theorem blank_no' {c : UInt8} (h : blankB c = false) : ((c.toNat : Int) == 32) = false ∧ ((c.toNat : Int) == 9) = false ∧ ((c.toNat : Int) == 10) = false := by
  unfold blankB at h; simp at h; simp; omega
/-- What the reference's skipper does to the splitter's state. -/
def Skips (s : ByteArray) (i j : Nat) : Prop := i ≤ j ∧ j ≤ s.size ∧ ∀ acc, SplitRel (bs s) i acc → SplitRel (bs s) j acc
theorem Skips.refl {s : ByteArray} {i : Nat} (h : i ≤ s.size) : Skips s i i := ⟨Nat.le_refl _, h, fun _ h => h⟩
theorem Skips.blank {s : ByteArray} {i j : Nat} (h : Skips s i j) (hj : j < s.size) (hb : blankB s[j] = true) : Skips s i (j + 1) :=
  ⟨by have := h.1; omega, hj, fun acc ha => SplitRel_blank (h.2.2 acc ha) hj hb⟩
theorem Skips.line {s : ByteArray} {i j : Nat} (h : Skips s i j) (hj : j < s.size) (hb : blankB s[j] = false) (hc : s[j].toNat = 35) : Skips s i (j + lineL ((bs s).drop j)) := by
  have hle := lineL_le ((bs s).drop j)
  rw [List.length_drop, bs_length] at hle
  exact ⟨by have := h.1; omega, by omega, fun acc ha => (SplitRel_line (h.2.2 acc ha) hj hb hc).1⟩
def Settled (s : ByteArray) (j : Nat) : Prop := ∀ h : j < s.size, blankB s[j] = false ∧ s[j].toNat ≠ 35
theorem lineL_lt : ∀ (l : Bytes) (m : Nat), m < lineL l → ∃ h : m < l.length, (l[m]'h).toNat ≠ 10
  | [], m, h => by simp [lineL] at h
  | c :: l, m, h => by
    unfold lineL at h
    rw [List.takeWhile_cons] at h
    by_cases hc : (c.toNat != 10) = true
    · rw [if_pos hc] at h
      match m with
      | 0 => exact ⟨by simp, by simpa using hc⟩
      | m + 1 =>
        obtain ⟨h1, h2⟩ := lineL_lt l m (by simpa [lineL] using h)
        exact ⟨by simpa using h1, by simpa using h2⟩
    · rw [if_neg hc] at h; simp at h
theorem lineL_stop : ∀ (l : Bytes) (h : lineL l < l.length), (l[lineL l]'h).toNat = 10
  | [], h => by simp [lineL] at h
  | c :: l, h => by
    by_cases hc : (c.toNat != 10) = true
    · have e : lineL (c :: l) = lineL l + 1 := by unfold lineL; rw [List.takeWhile_cons, if_pos hc]; simp
      have h' : lineL l < l.length := by rw [e] at h; simpa using h
      have := lineL_stop l h'
      simpa [e] using this
    · have e : lineL (c :: l) = 0 := by unfold lineL; rw [List.takeWhile_cons, if_neg hc]; simp
      simp only [e]
      simpa using hc
theorem line_in {s : ByteArray} {k m : Nat} (h : m < lineL ((bs s).drop k)) : ∃ h : k + m < s.size, s[k + m].toNat ≠ 10 := by
  obtain ⟨h1, h2⟩ := lineL_lt _ _ h
  rw [List.length_drop, bs_length] at h1
  refine ⟨by omega, ?_⟩
  rw [List.getElem_drop] at h2
  exact h2
theorem line_out {s : ByteArray} {k : Nat} (h : k + lineL ((bs s).drop k) < s.size) : (s[k + lineL ((bs s).drop k)]).toNat = 10 := by
  have := lineL_stop ((bs s).drop k) (by rw [List.length_drop, bs_length]; omega)
  rw [List.getElem_drop] at this
  exact this

set_option maxRecDepth 100000 in
set_option maxHeartbeats 2000000 in
theorem ref7_skip_any (s : ByteArray) (i : Nat) (w : World) (hs : s.size ≤ maxLen) (hi : i ≤ s.size) :
    Calls Tryd.prog 36 #[.string s, .int .i64 i] w fun e w' => (∃ j : Nat, e = .returned (.int .i64 j) ∧ Hid (Skips s i j) ∧ Hid (Settled s j)) ∧ w = w' := by
  unfold maxLen at hs
  go_enter Tryd.func36, Tryd.ntmps36
  go_wp2
  go_loop [1] (fun a => ∃ k : Nat, k ≤ s.size ∧ a = .int .i64 k ∧ Hid (Skips s i k)) (fun a => s.size - (intOf a).toNat)
  case atStart => exact ⟨i, hi, rfl, Skips.refl hi⟩
  case round =>
    obtain ⟨k, hk, rfl, HS⟩ := hrel
    by_cases hlt : k < s.size
    · cases hb : blankB s[k]
      · obtain ⟨b1, b2, b3⟩ := blank_no' hb
        by_cases h35 : s[k].toNat = 35
        · have b4 : ((s[k].toNat : Int) == 35) = true := by simp; omega
          have HS2 := hide (Skips.line HS.out hlt hb h35)
          have hle := HS2.out.2.1
          have hpos : 1 ≤ lineL ((bs s).drop k) := by rw [drop_cons s k hlt]; exact lineL_pos h35
          have HI := hide (fun m (h : m < lineL ((bs s).drop k)) => line_in h)
          have HO := hide (fun (h : k + lineL ((bs s).drop k) < s.size) => line_out h)
          clear hb h35
          generalize lineL ((bs s).drop k) = n at *
          go_wp2
          go_loop [1] (fun a => ∃ m : Nat, m ≤ n ∧ a = .int .i64 (k + m)) (fun a => k + n - (intOf a).toNat)
          case atStart => exact ⟨0, by omega, by simp⟩
          case round =>
            obtain ⟨m, hm, rfl⟩ := hrel
            by_cases hmn : m < n
            · obtain ⟨g1, g2⟩ := HI.out m hmn
              have g3 : ((s[k+m].toNat : Int) != 10) = true := by simp; omega
              clear g2
              go_wp2
              go_round
              case rel => exact ⟨m + 1, by omega, by go_num⟩
              case measure => simp [intOf]; omega
            · obtain rfl : m = n := by omega
              have hx : ¬ k + m < s.size ∨ ∃ h : k + m < s.size, ((s[k+m].toNat : Int) != 10) = false := by
                by_cases h : k + m < s.size
                · exact .inr ⟨h, by have := HO.out h; simp; omega⟩
                · exact .inl h
              rcases hx with hx | ⟨hx, hx2⟩
              all_goals
                go_wp2
                exact ⟨⟨k + m, by omega, by go_num, HS2⟩, by simp [intOf]; omega⟩
        · have b4 : ((s[k].toNat : Int) == 35) = false := by simp; omega
          have HT := hide (show Settled s k from fun _ => ⟨hb, h35⟩)
          clear hb h35
          go_wp2
          go_ret
          exact ⟨⟨k, rfl, HS, HT⟩, rfl⟩
      · have HS2 := hide (Skips.blank HS.out hlt hb)
        rcases blank_yes' hb with b1 | ⟨b1, b2⟩ | ⟨b1, b2, b3⟩
        all_goals
          clear hb
          go_wp2
          exact ⟨⟨k + 1, by omega, by go_num, HS2⟩, by simp [intOf]; omega⟩
    · obtain rfl : k = s.size := by omega
      have HT := hide (show Settled s s.size from fun h => absurd h hlt)
      go_wp2
      go_ret
      exact ⟨⟨s.size, rfl, HS, HT⟩, rfl⟩

end Go.Proofs.YtajcddaahmbllaaDoor
