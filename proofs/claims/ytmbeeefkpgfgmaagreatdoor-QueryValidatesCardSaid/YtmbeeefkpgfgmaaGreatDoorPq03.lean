/- Contracts of the byte classes and of the run of word bytes. Contracts of the readers of one token: names, integers, literals. Contracts of the readers of one token: integers. Contract of the reader of a text literal. The plain functions of names and of single tokens, for TokenValidates. Contract: ref5.IsName. Contract: schema.IsName (a range over a string's runes). Contracts: strings.Cut at a dot; schema.IsQualified, ref5.IsQualified. Contract of the splitter, the program's. Contracts of the reference's reader of symbols and of its skipper. Contract of the reference's reader of symbols. Contract of the reference's reader of one token. Contract of the splitter, the reference's. Contracts of the comparers of tokens. Contracts: reserved words; the comparison of the two splitters; the law's sanity check. Contracts: slices.Contains of strings, token.valid. Contract: ref7.valid. Contracts: token.Validate, ref7.Validate. -/
import Derived.Test.YtmbeeefkpgfgmaaGreatDoorProg
import Derived.Test.YtmbeeefkpgfgmaaGreatDoorPq01
import Derived.WalkLawsBesides
import Derived.Deep.QuietTactic
import Derived.BigQuiet
import Derived.Test.YtmbeeefkpgfgmaaGreatDoorPq02
import Derived.Laws.RangeString
import Derived.Laws.RangeAny
import Derived.IntWalk
import Derived.Deep.RegionWith
import Derived.Deep.LoopGhost
import Derived.Deep.RegionHeld3
set_option linter.unusedVariables false
set_option linter.unusedSimpArgs false
namespace Go.Proofs.YtmbeeefkpgfgmaaGreatDoor
open Go.RowKit

end Go.Proofs.YtmbeeefkpgfgmaaGreatDoor

namespace Go.Proofs.YtmbeeefkpgfgmaaGreatDoor
open Go.RowKit

theorem bs_from (s : ByteArray) (a : Nat) : bs (s.extract a s.size) = (bs s).drop a := by
  rw [bs_extract, List.take_of_length_le (by rw [bs_length]; exact Nat.le_refl _)]

end Go.Proofs.YtmbeeefkpgfgmaaGreatDoor

namespace Go.Proofs.YtmbeeefkpgfgmaaGreatDoor
open Go.RowKit

end Go.Proofs.YtmbeeefkpgfgmaaGreatDoor

namespace Go.Proofs.YtmbeeefkpgfgmaaGreatDoor
open Go.RowKit

end Go.Proofs.YtmbeeefkpgfgmaaGreatDoor
namespace Go.Proofs.YtmbeeefkpgfgmaaGreatDoor
open Go.RowKit
def isNameB (maxName : Nat) (l : Bytes) : Bool := decide (l.length ≤ maxName) && (match l with | [] => false | c :: r => letB c && r.all wordB)
def dotL (l : Bytes) : Nat := (l.takeWhile fun c => c.toNat != 46).length
def isQualB (maxName : Nat) (l : Bytes) : Bool :=
  if dotL l < l.length then isNameB maxName (l.take (dotL l)) && isNameB maxName (l.drop (dotL l + 1)) else isNameB maxName l
theorem dotL_le (l : Bytes) : dotL l ≤ l.length := (List.takeWhile_sublist _).length_le
theorem dotL_lt : ∀ (l : Bytes) (k : Nat) (_ : k < dotL l), ∃ h' : k < l.length, (l[k]'h').toNat ≠ 46
  | [], k, h => by simp [dotL] at h
  | c :: l, k, h => by
    unfold dotL at h
    rw [List.takeWhile_cons] at h
    by_cases hc : (c.toNat != 46) = true
    · rw [if_pos hc] at h
      match k with
      | 0 => exact ⟨by simp, by simpa using hc⟩
      | k + 1 =>
        obtain ⟨h1, h2⟩ := dotL_lt l k (by simpa [dotL] using h)
        exact ⟨by simpa using h1, by simpa using h2⟩
    · rw [if_neg hc] at h; simp at h
theorem dotL_stop : ∀ (l : Bytes) (h : dotL l < l.length), (l[dotL l]'h).toNat = 46
  | [], h => by simp [dotL] at h
  | c :: l, h => by
    by_cases hc : (c.toNat != 46) = true
    · have e : dotL (c :: l) = dotL l + 1 := by unfold dotL; rw [List.takeWhile_cons, if_pos hc]; simp
      have h' : dotL l < l.length := by rw [e] at h; simpa using h
      have := dotL_stop l h'
      simpa [e] using this
    · have e : dotL (c :: l) = 0 := by unfold dotL; rw [List.takeWhile_cons, if_neg hc]; simp
      have hc' : c.toNat = 46 := by simpa using hc
      simpa [e] using hc'
theorem dotL_idx : ∀ l : Bytes, (Lib.indexByte l 46 < 0 → dotL l = l.length) ∧ (¬ Lib.indexByte l 46 < 0 → Lib.indexByte l 46 = dotL l ∧ dotL l < l.length)
  | [] => by simp [Lib.indexByte, dotL]
  | c :: l => by
    obtain ⟨i1, i2⟩ := dotL_idx l
    have hge := Lib.indexByte_ge l 46
    by_cases hc : c.toNat = 46
    · have e : c = 46 := by apply UInt8.toNat_inj.1; rw [hc]; rfl
      subst e
      simp [Lib.indexByte, dotL]
    · have hne : (c == 46) = false := by rw [beq_eq_false_iff_ne]; intro e; subst e; exact hc rfl
      have hn : (c.toNat != 46) = true := by simp [hc]
      have el : dotL (c :: l) = dotL l + 1 := by unfold dotL; rw [List.takeWhile_cons, if_pos hn]; simp
      rw [el]
      unfold Lib.indexByte
      rw [hne]
      simp only [Bool.false_eq_true, if_false]
      by_cases hm : Lib.indexByte l 46 = -1
      · rw [hm]; simp; rw [i1 (by omega)]
      · have hm' : (Lib.indexByte l 46 == -1) = false := by simp [hm]
        rw [hm']; simp
        have := i2 (by omega)
        omega

/-! ### single tokens -/
def symB (x : Bytes) : Bool := symbolsS.contains x
def okTok (k : Int) (x : Bytes) (n : Int) : Bool :=
  if k = 0 then x.isEmpty && n == 0
  else if k = 1 then isQualB 24 x && n == 0
  else if k = 2 then x.isEmpty && (decide (0 ≤ n) && decide (n ≤ 1073741824))
  else if k = 3 then decide (x.length ≤ 64) && n == 0
  else if k = 4 then x.isEmpty && (decide (0 ≤ n) && decide (n ≤ 575999999))
  else if k = 5 then symB x && n == 0
  else false
def Tok.ok (t : Tok) : Bool := okTok t.kind t.text t.num
end Go.Proofs.YtmbeeefkpgfgmaaGreatDoor

namespace Go.Proofs.YtmbeeefkpgfgmaaGreatDoor
open Go.RowKit
theorem isNameB_long {m : Nat} {s : ByteArray} (h : m < s.size) : isNameB m (bs s) = false := by
  unfold isNameB
  rw [decide_eq_false (by rw [bs_length]; omega)]; rfl
theorem isNameB_nil {m : Nat} {s : ByteArray} (h : s.size = 0) : isNameB m (bs s) = false := by
  have : bs s = [] := List.eq_nil_of_length_eq_zero h
  rw [this]; simp [isNameB]
theorem isNameB_head {m : Nat} {s : ByteArray} (h : 0 < s.size) (hc : letB s[0] = false) : isNameB m (bs s) = false := by
  unfold isNameB
  have e : (bs s)[0]'h = s[0] := rfl
  cases hb : bs s with
  | nil => simp
  | cons c r =>
    have : c = s[0] := by rw [← e]; simp [hb]
    simp [this, hc]
theorem isNameB_bad {m : Nat} {s : ByteArray} {k : Nat} (h : k < s.size) (hc : wordB s[k] = false) : isNameB m (bs s) = false := by
  unfold isNameB
  have e : (bs s)[k]'h = s[k] := rfl
  cases hb : bs s with
  | nil => simp
  | cons c r =>
    have e2 : (c :: r)[k]'(by rw [← hb]; exact h) = s[k] := by rw [← e]; simp [hb]
    have : letB c = false ∨ r.all wordB = false := by
      cases k with
      | zero =>
        left
        have : c = s[0] := e2
        rw [this]; exact (wordB_no hc).1
      | succ k =>
        right
        rw [List.all_eq_false]
        exact ⟨s[k+1], by rw [← e2]; simp, by simp [hc]⟩
    rcases this with h | h <;> simp [h]
theorem isNameB_good {m : Nat} {s : ByteArray} (h0 : 0 < s.size) (h1 : s.size ≤ m) (hc : letB s[0] = true) (ha : ∀ k (hk : k < s.size), wordB s[k] = true) : isNameB m (bs s) = true := by
  unfold isNameB
  rw [decide_eq_true (by rw [bs_length]; omega)]
  have e : (bs s)[0]'h0 = s[0] := rfl
  cases hb : bs s with
  | nil => have : (bs s).length = 0 := by rw [hb]; rfl
           rw [bs_length] at this; omega
  | cons c r =>
    have e1 : c = s[0] := by rw [← e]; simp [hb]
    have : r.all wordB = true := by
      rw [List.all_eq_true]
      intro x hx
      obtain ⟨i, hi, rfl⟩ := List.mem_iff_getElem.1 hx
      have hk : i + 1 < s.size := by rw [← bs_length, hb]; simp; omega
      have e3 : (bs s)[i+1]'hk = s[i+1] := rfl
      have : r[i] = s[i+1] := by rw [← e3]; simp [hb]
      rw [this]; exact ha _ hk
    simp [e1, hc, this]
theorem letB_split {c : UInt8} (h : letB c = true) : 97 ≤ c.toNat ∧ c.toNat ≤ 122 := by
  unfold letB at h; simpa using h
set_option maxHeartbeats 1000000 in
theorem ref5_IsName_any (s : ByteArray) (w : World) :
    Calls Tryz.prog 162 #[.string s] w fun e w' => e = .returned (.bool (isNameB 24 (bs s))) ∧ w = w' := by
  by_cases h0 : s.size = 0
  · have HE := hide (isNameB_nil (m := 24) h0)
    have hlt : decide ((s.size : Int) < 1) = true := by simp; omega
    go_enter Tryz.func162, Tryz.ntmps162
    go_wp2
    go_ret
    exact ⟨ret_bool (by rw [HE.out]), rfl⟩
  by_cases h1 : 24 < s.size
  · have HE := hide (isNameB_long h1)
    have hlt : decide ((s.size : Int) < 1) = false := by simp; omega
    have hgt : decide (24 < (s.size : Int)) = true := by simp; omega
    go_enter Tryz.func162, Tryz.ntmps162
    go_wp2
    go_ret
    exact ⟨ret_bool (by rw [HE.out]), rfl⟩
  have hz : 0 < s.size := by omega
  have hlt : decide ((s.size : Int) < 1) = false := by simp; omega
  have hgt : decide (24 < (s.size : Int)) = false := by simp; omega
  cases hc : letB s[0] with
  | false =>
    have HE := hide (isNameB_head (m := 24) hz hc)
    unfold letB at hc
    by_cases hA : s[0].toNat < 97
    · have g1 : decide ((s[0].toNat : Int) < 97) = true := by simp; omega
      clear hc
      go_enter Tryz.func162, Tryz.ntmps162
      go_wp2
      go_ret
      exact ⟨ret_bool (by rw [HE.out]), rfl⟩
    · have g1 : decide ((s[0].toNat : Int) < 97) = false := by simp; omega
      have g3 : 122 < s[0].toNat := by simp at hc; omega
      have g2 : decide (122 < (s[0].toNat : Int)) = true := by simp; omega
      clear hc
      go_enter Tryz.func162, Tryz.ntmps162
      go_wp2
      go_ret
      exact ⟨ret_bool (by rw [HE.out]), rfl⟩
  | true =>
    have HC := hide hc
    have hc' := letB_split hc
    have g1 : decide ((s[0].toNat : Int) < 97) = false := by simp; omega
    have g2 : decide (122 < (s[0].toNat : Int)) = false := by simp; omega
    clear hc
    go_enter Tryz.func162, Tryz.ntmps162
    go_wp2
    clear g1 g2 hc' hlt hgt
    go_loop [3] (fun i => ∃ k : Nat, k ≤ s.size ∧ i = .int .i64 k ∧ Hid (∀ j (hj : j < s.size), j < k → wordB s[j] = true)) (fun i => s.size - (intOf i).toNat)
    case atStart => exact ⟨0, by omega, rfl, fun j _ h => absurd h (Nat.not_lt_zero _)⟩
    case round =>
      obtain ⟨k, hk, rfl, HN⟩ := hrel
      by_cases hlt : k < s.size
      · by_cases hw : wordB s[k] = true
        · have HN' := hide (show ∀ j (hj : j < s.size), j < k + 1 → wordB s[j] = true from fun j hj h => by
            by_cases e : j = k
            · subst e; exact hw
            · exact HN.out j hj (by omega))
          by_cases hA : 97 ≤ s[k].toNat ∧ s[k].toNat ≤ 122
          · clear hw
            go_wp2
            go_round
            case rel => exact ⟨k + 1, by omega, by go_num, HN'⟩
            case measure => simp [intOf]; omega
          · have hcs := wordB_cases hw
            clear hw
            by_cases hD : 48 ≤ s[k].toNat ∧ s[k].toNat ≤ 57
            · have hlt97 : s[k].toNat < 97 := by omega
              clear hcs hA
              go_wp2
              go_round
              case rel => exact ⟨k + 1, by omega, by go_num, HN'⟩
              case measure => simp [intOf]; omega
            · have h95 : s[k].toNat = 95 := by
                unfold letB digB at hcs
                simp at hcs
                omega
              clear hcs hA hD
              have hne : ((s[k].toNat : Int) != 95) = false := by simp; omega
              go_wp2
              go_round
              case rel => exact ⟨k + 1, by omega, by go_num, HN'⟩
              case measure => simp [intOf]; omega
        · have hw' : wordB s[k] = false := by simpa using hw
          have HE := hide (isNameB_bad (m := 24) hlt hw')
          obtain ⟨n1, n2, n3⟩ := wordB_no hw'
          have hne : ((s[k].toNat : Int) != 95) = true := by simp at n3 ⊢; omega
          unfold letB at n1
          unfold digB at n2
          simp at n1 n2
          clear hw hw' n3
          by_cases hA : s[k].toNat < 48
          · have hB : s[k].toNat < 97 := by omega
            clear n1 n2
            go_wp2
            go_ret
            exact ⟨ret_bool (by rw [HE.out]), rfl⟩
          · have hC : 57 < s[k].toNat := by omega
            have d57 : decide ((s[k].toNat : Int) ≤ 57) = false := by simp; omega
            by_cases hB : s[k].toNat < 97
            · clear n1 n2
              go_wp2
              go_ret
              exact ⟨ret_bool (by rw [HE.out]), rfl⟩
            · have hD : 122 < s[k].toNat := by omega
              have d122 : decide ((s[k].toNat : Int) ≤ 122) = false := by simp; omega
              clear n1 n2
              go_wp2
              go_ret
              exact ⟨ret_bool (by rw [HE.out]), rfl⟩
      · have HE := hide (isNameB_good (m := 24) hz (by omega) HC.out fun j hj => HN.out j hj (by omega))
        go_wp2
        go_ret
        exact ⟨ret_bool (by rw [HE.out]), rfl⟩
end Go.Proofs.YtmbeeefkpgfgmaaGreatDoor

namespace Go.Proofs.YtmbeeefkpgfgmaaGreatDoor
open Go.RowKit
def NameRel (s : ByteArray) (pos : Nat) : Prop := (∀ (h : 0 < s.size), 0 < pos → letB s[0] = true) ∧ ∀ j (hj : j < s.size), j < pos → wordB s[j] = true
theorem NameRel_start (s : ByteArray) : NameRel s 0 := ⟨fun _ h => absurd h (Nat.not_lt_zero _), fun _ _ h => absurd h (Nat.not_lt_zero _)⟩
theorem letB_mk {c : UInt8} (h : 97 ≤ c.toNat ∧ c.toNat ≤ 122) : letB c = true := by unfold letB; simp; exact h
theorem letB_not {c : UInt8} (h : ¬ (97 ≤ c.toNat ∧ c.toNat ≤ 122)) : letB c = false := by
  cases hc : letB c
  · rfl
  · exact absurd (letB_split hc) h
theorem wordB_mk {c : UInt8} (h : letB c = true ∨ c.toNat = 95 ∨ (48 ≤ c.toNat ∧ c.toNat ≤ 57)) : wordB c = true := by
  unfold wordB
  rcases h with h | h | h
  · rw [h]; rfl
  · simp [h]
  · unfold digB; simp [h.1, h.2]
theorem wordB_not {c : UInt8} (h : letB c = false) (h2 : ¬ c.toNat = 95) (h3 : ¬ (48 ≤ c.toNat ∧ c.toNat ≤ 57)) : wordB c = false := by
  unfold wordB digB
  rw [h]
  simp
  exact ⟨by omega, h2⟩
theorem NameRel_step {s : ByteArray} {pos : Nat} (h : NameRel s pos) (hp : pos < s.size) (hw : wordB s[pos] = true) (h0 : pos = 0 → letB s[pos] = true) : NameRel s (pos + 1) := by
  refine ⟨fun h1 _ => ?_, fun j hj h1 => ?_⟩
  · by_cases e : pos = 0
    · subst e; exact h0 rfl
    · exact h.1 h1 (by omega)
  · by_cases e : j = pos
    · subst e; exact hw
    · exact h.2 j hj (by omega)
theorem NameRel_end {s : ByteArray} (h : NameRel s s.size) (h1 : ¬ 24 < s.size) : isNameB 24 (bs s) = !s.toList.isEmpty := by
  by_cases h0 : s.size = 0
  · rw [isNameB_nil h0]
    have : s.toList = [] := by rw [ByteArray.toList_eq]; exact List.eq_nil_of_length_eq_zero h0
    rw [this]; rfl
  · rw [isNameB_good (by omega) (by omega) (h.1 (by omega) (by omega)) fun k hk => h.2 k hk hk]
    have : s.toList ≠ [] := by
      rw [ByteArray.toList_eq]; intro e
      have : s.data.toList.length = 0 := by rw [e]; rfl
      exact h0 this
    cases hs : s.toList with
    | nil => exact absurd hs this
    | cons => rfl
theorem iter_below (w : World) (s : ByteArray) (pos : Nat) : Below w.heap.size w (w.iter s pos) := (Below.refl _ _).alloc (Nat.le_refl _) _
set_option maxHeartbeats 2000000 in
theorem schema_IsName_any (s : ByteArray) (w : World) :
    Calls Tryz.prog 97 #[.string s] w fun e w' => e = .returned (.bool (isNameB 24 (bs s))) ∧ Below w.heap.size w w' := by
  by_cases h1 : 24 < s.size
  · have HE := hide (isNameB_long h1)
    have hgt : decide (24 < (s.size : Int)) = true := by simp; omega
    go_enter Tryz.func97, Tryz.ntmps97
    go_wp2
    go_ret
    exact ⟨ret_bool (by rw [HE.out]), Below.refl _ _⟩
  have hgt : decide (24 < (s.size : Int)) = false := by simp; omega
  go_enter Tryz.func97, Tryz.ntmps97
  go_wp2
  clear hgt
  go_loopw [3] (fun n w' => ∃ (pos : Nat), w' = w.iter s pos ∧ pos ≤ s.size ∧ Hid (NameRel s pos)) (fun _ w' => s.size - w'.iterPos w.heap.size)
  case atStart => exact ⟨0, rfl, by omega, NameRel_start s⟩
  case round =>
    obtain ⟨pos, rfl, hk, HN⟩ := hrel
    by_cases hlt : pos < s.size
    · by_cases ha : (s[pos]).toNat < 128
      · have hnx := fun ty => run_next_ascii (P := Tryz.prog) w s pos ty hlt ha
        by_cases hA : 97 ≤ s[pos].toNat ∧ s[pos].toNat ≤ 122
        · have HN' := hide (NameRel_step HN.out hlt (wordB_mk (.inl (letB_mk hA))) fun _ => letB_mk hA)
          go_wp2
          exact ⟨⟨pos + 1, rfl, by omega, HN'⟩, by simp; omega⟩
        · have hl := letB_not hA
          by_cases h0 : pos = 0
          · subst h0
            have HE := hide (isNameB_head (m := 24) hlt hl)
            clear hl
            by_cases hB : s[0].toNat < 97
            · clear hA
              go_wp2
              go_ret
              exact ⟨ret_bool (by rw [HE.out]), iter_below _ _ _⟩
            · have hC : 122 < s[0].toNat := by omega
              have d122 : decide ((s[0].toNat : Int) ≤ 122) = false := by simp; omega
              clear hA
              go_wp2
              go_ret
              exact ⟨ret_bool (by rw [HE.out]), iter_below _ _ _⟩
          · have hp0 : ((pos : Int) == 0) = false := by simp; omega
            by_cases h95 : s[pos].toNat = 95
            · have HN' := hide (NameRel_step HN.out hlt (wordB_mk (.inr (.inl h95))) fun e => absurd e h0)
              have hne : ((s[pos].toNat : Int) != 95) = false := by simp; omega
              have hB : s[pos].toNat < 97 := by omega
              clear hA hl h95
              go_wp2
              exact ⟨⟨pos + 1, rfl, by omega, HN'⟩, by simp; omega⟩
            · have hne : ((s[pos].toNat : Int) != 95) = true := by simp; omega
              by_cases hD : 48 ≤ s[pos].toNat ∧ s[pos].toNat ≤ 57
              · have HN' := hide (NameRel_step HN.out hlt (wordB_mk (.inr (.inr hD))) fun e => absurd e h0)
                have hB : s[pos].toNat < 97 := by omega
                clear hA hl h95
                go_wp2
                exact ⟨⟨pos + 1, rfl, by omega, HN'⟩, by simp; omega⟩
              · have HE := hide (isNameB_bad (m := 24) hlt (wordB_not hl h95 hD))
                clear hl h95
                by_cases hB : s[pos].toNat < 48
                · have hB2 : s[pos].toNat < 97 := by omega
                  clear hA hD
                  go_wp2
                  go_ret
                  exact ⟨ret_bool (by rw [HE.out]), iter_below _ _ _⟩
                · have hC : 57 < s[pos].toNat := by omega
                  by_cases hB2 : s[pos].toNat < 97
                  · clear hA hD
                    go_wp2
                    go_ret
                    exact ⟨ret_bool (by rw [HE.out]), iter_below _ _ _⟩
                  · have hC2 : 122 < s[pos].toNat := by omega
                    have d122 : decide ((s[pos].toNat : Int) ≤ 122) = false := by simp; omega
                    clear hA hD
                    go_wp2
                    go_ret
                    exact ⟨ret_bool (by rw [HE.out]), iter_below _ _ _⟩
      · have hnx := fun ty => run_next_any (P := Tryz.prog) w s pos ty hlt
        obtain ⟨hd1, hd2⟩ := decode_high s pos hlt (by omega)
        have hl : letB s[pos] = false := letB_not (by omega)
        have HE := hide (isNameB_bad (m := 24) hlt (wordB_not hl (by omega) (by omega)))
        have d122 : decide (((Utf8.decode s pos).1 : Int) ≤ 122) = false := by simp; omega
        have hne : (((Utf8.decode s pos).1 : Int) != 95) = true := by simp; omega
        clear hl ha
        generalize Utf8.decode s pos = d at *
        by_cases h0 : pos = 0
        · subst h0
          go_wp2
          go_ret
          exact ⟨ret_bool (by rw [HE.out]), iter_below _ _ _⟩
        · have hp0 : ((pos : Int) == 0) = false := by simp; omega
          go_wp2
          go_ret
          exact ⟨ret_bool (by rw [HE.out]), iter_below _ _ _⟩
    · obtain rfl : pos = s.size := by omega
      have hnx := fun ty => run_next_end (P := Tryz.prog) w s s.size ty hlt
      have HE := hide (NameRel_end HN.out h1)
      go_wp2
      go_ret
      exact ⟨ret_bool (by rw [HE.out]), iter_below _ _ _⟩
end Go.Proofs.YtmbeeefkpgfgmaaGreatDoor

namespace Go.Proofs.YtmbeeefkpgfgmaaGreatDoor
open Go.RowKit
theorem slIndex_dot (s : ByteArray) (w : World) : Calls Tryz.prog 261 #[.string s, .string ⟨#[46]⟩] w fun e w' => e = .returned (.int .i64 (Lib.indexByte (bs s) 46)) ∧ w = w' :=
  (Tryz.stringslite_Index_one s 46 w).mono fun _ _ ⟨h1, h2⟩ => ⟨h1, h2.symm⟩
set_option maxHeartbeats 1000000 in
theorem slCut_no (s : ByteArray) (w : World) (hs : s.size ≤ maxLen) (h : ¬ dotL (bs s) < s.size) :
    Calls Tryz.prog 230 #[.string s, .string ⟨#[46]⟩] w fun e w' => e = .returned (.tuple #[.string s, .string ⟨#[]⟩, .bool false]) ∧ w = w' := by
  unfold maxLen at hs
  obtain ⟨h1, h2⟩ := dotL_idx (bs s)
  rw [bs_length] at h2
  have hn : Lib.indexByte (bs s) 46 < 0 := by
    rcases Int.lt_or_le (Lib.indexByte (bs s) 46) 0 with h3 | h3
    · exact h3
    · exact absurd (h2 (by omega)).2 h
  have HI := hide (fun W => slIndex_dot s W)
  clear h1 h2 h
  generalize Lib.indexByte (bs s) 46 = i at *
  have hi : decide (0 ≤ i) = false := by simp; omega
  go_enter Tryz.func230, Tryz.ntmps230
  go_wp2_with (go_at_call 261; refine (HI.out _).mono ?_; rintro e w' ⟨rfl, rfl⟩)
  go_ret3
  exact ⟨rfl, rfl⟩
set_option maxHeartbeats 1000000 in
theorem slCut_yes (s : ByteArray) (w : World) (hs : s.size ≤ maxLen) (h : dotL (bs s) < s.size) :
    Calls Tryz.prog 230 #[.string s, .string ⟨#[46]⟩] w fun e w' => e = .returned (.tuple #[.string (s.extract 0 (dotL (bs s))), .string (s.extract (dotL (bs s) + 1) s.size), .bool true]) ∧ ∃ n, w' = w.drewN n := by
  unfold maxLen at hs
  obtain ⟨h1, h2⟩ := dotL_idx (bs s)
  have hn : ¬ Lib.indexByte (bs s) 46 < 0 := fun h3 => by
    have := h1 h3
    rw [bs_length] at this; omega
  have HI := hide (fun W => slIndex_dot s W)
  rw [(h2 hn).1] at HI
  clear h1 h2 hn
  generalize dotL (bs s) = d at *
  go_enter Tryz.func230, Tryz.ntmps230
  go_wp2_with (go_at_call 261; refine (HI.out _).mono ?_; rintro e w' ⟨rfl, rfl⟩)
  have hw : IntKind.i64.wrap ((d : Int) + 1) = (d : Int) + 1 := IntWalk.i64_in _ (by omega)
  have h0 : (0 : Int) ≤ (d : Int) + 1 := by omega
  have h1 : ((d : Int) + 1).toNat = d + 1 := by omega
  go_big_quiet (fail)
  go_wp2
  go_ret3
  exact ⟨rfl, _, rfl⟩
set_option maxHeartbeats 1000000 in
theorem Cut_no (s : ByteArray) (w : World) (hs : s.size ≤ maxLen) (h : ¬ dotL (bs s) < s.size) :
    Calls Tryz.prog 158 #[.string s, .string ⟨#[46]⟩] w fun e w' => e = .returned (.tuple #[.string s, .string ⟨#[]⟩, .bool false]) ∧ w = w' := by
  have HC := hide (fun W => slCut_no s W hs h)
  clear h
  go_enter Tryz.func158, Tryz.ntmps158
  go_wp2_with (go_at_call 230; refine (HC.out _).mono ?_; rintro e w' ⟨rfl, rfl⟩)
  go_ret3
  exact ⟨rfl, rfl⟩
set_option maxHeartbeats 1000000 in
theorem Cut_yes (s : ByteArray) (w : World) (hs : s.size ≤ maxLen) (h : dotL (bs s) < s.size) :
    Calls Tryz.prog 158 #[.string s, .string ⟨#[46]⟩] w fun e w' => e = .returned (.tuple #[.string (s.extract 0 (dotL (bs s))), .string (s.extract (dotL (bs s) + 1) s.size), .bool true]) ∧ ∃ n, w' = w.drewN n := by
  have HC := hide (fun W => slCut_yes s W hs h)
  clear h
  go_enter Tryz.func158, Tryz.ntmps158
  go_wp2_with (go_at_call 230; refine (HC.out _).mono ?_; rintro e w' ⟨rfl, n, rfl⟩)
  go_ret3
  exact ⟨rfl, _, rfl⟩
theorem isQualB_yes {s : ByteArray} (h : dotL (bs s) < s.size) : isQualB 24 (bs s) = (isNameB 24 (bs (s.extract 0 (dotL (bs s)))) && isNameB 24 (bs (s.extract (dotL (bs s) + 1) s.size))) := by
  unfold isQualB
  rw [if_pos (by rw [bs_length]; exact h), bs_from, bs_extract]; rfl
theorem isQualB_no {s : ByteArray} (h : ¬ dotL (bs s) < s.size) : isQualB 24 (bs s) = isNameB 24 (bs s) := by
  unfold isQualB
  rw [if_neg (by rw [bs_length]; exact h)]
set_option maxHeartbeats 2000000 in
theorem schema_IsQualified_any (s : ByteArray) (w : World) (hs : s.size ≤ maxLen) :
    Calls Tryz.prog 88 #[.string s] w fun e w' => e = .returned (.bool (isQualB 24 (bs s))) ∧ Below w.heap.size w w' := by
  by_cases h : dotL (bs s) < s.size
  · have HE := hide (isQualB_yes h)
    have HC := hide (fun W => Cut_yes s W hs h)
    clear h
    generalize s.extract 0 (dotL (bs s)) = x at *
    generalize s.extract (dotL (bs s) + 1) s.size = y at *
    have HX := hide (fun W => schema_IsName_any x W)
    have HY := hide (fun W => schema_IsName_any y W)
    cases hx : isNameB 24 (bs x)
    · rw [hx] at HX HE
      clear hx
      go_enter Tryz.func88, Tryz.ntmps88
      go_wp2_with fail
      refine (HC.out _).mono ?_; rintro e w' ⟨rfl, n, rfl⟩
      go_wp2_with fail
      refine (HX.out _).mono ?_; rintro e w1 ⟨rfl, hb⟩
      go_wp2
      go_ret
      exact ⟨ret_bool (by rw [HE.out]; rfl), (below_drewN (Below.refl _ _) n).trans hb⟩
    · rw [hx] at HX HE
      clear hx
      rw [Bool.true_and] at HE
      generalize isNameB 24 (bs y) = r at *
      go_enter Tryz.func88, Tryz.ntmps88
      go_wp2_with fail
      refine (HC.out _).mono ?_; rintro e w' ⟨rfl, n, rfl⟩
      go_wp2_with fail
      refine (HX.out _).mono ?_; rintro e w1 ⟨rfl, hb⟩
      go_wp2_with fail
      refine (HY.out _).mono ?_; rintro e w2 ⟨rfl, hb2⟩
      go_wp2
      go_ret
      exact ⟨ret_bool (by rw [HE.out]), (below_drewN (Below.refl _ _) n).trans (hb.trans (hb2.mono hb.size))⟩
  · have HE := hide (isQualB_no h)
    have HC := hide (fun W => Cut_no s W hs h)
    clear h
    have HX := hide (fun W => schema_IsName_any s W)
    generalize isNameB 24 (bs s) = r at *
    cases r
    all_goals
      go_enter Tryz.func88, Tryz.ntmps88
      go_wp2_with fail
      refine (HC.out _).mono ?_; rintro e w' ⟨rfl, rfl⟩
      go_wp2_with fail
      refine (HX.out _).mono ?_; rintro e w1 ⟨rfl, hb⟩
      go_wp2
      go_ret
      exact ⟨ret_bool (by rw [HE.out]), hb⟩
set_option maxHeartbeats 2000000 in
theorem ref5_IsQualified_any (s : ByteArray) (w : World) (hs : s.size ≤ maxLen) :
    Calls Tryz.prog 98 #[.string s] w fun e w' => e = .returned (.bool (isQualB 24 (bs s))) ∧ w = w' := by
  unfold maxLen at hs
  have hd := dotL_le (bs s)
  rw [bs_length] at hd
  have HL := hide (fun k h => dotL_lt (bs s) k h)
  have HS := hide (fun h => dotL_stop (bs s) h)
  have HY := hide (fun h => isQualB_yes (s := s) h)
  have HNo := hide (fun h => isQualB_no (s := s) h)
  generalize hdd : dotL (bs s) = d at *
  clear hdd
  go_enter Tryz.func98, Tryz.ntmps98
  go_wp2
  go_loop [3] (fun i => ∃ k : Nat, k ≤ d ∧ i = .int .i64 k) (fun i => d - (intOf i).toNat)
  case atStart => exact ⟨0, by omega, rfl⟩
  case round =>
    obtain ⟨k, hk, rfl⟩ := hrel
    by_cases hlt : k < d
    · obtain ⟨h1, h2⟩ := HL.out k hlt
      have h1' : k < s.size := h1
      have h2' : ((s[k].toNat : Int) == 46) = false := by
        have : s[k].toNat ≠ 46 := h2
        simp; omega
      clear h2
      go_wp2
      go_round
      case rel => exact ⟨k + 1, by omega, by go_num⟩
      case measure => simp [intOf]; omega
    · obtain rfl : k = d := by omega
      by_cases hz : k < s.size
      · have h2' : ((s[k].toNat : Int) == 46) = true := by
          have : s[k].toNat = 46 := HS.out hz
          simp; omega
        have HE := hide (HY.out hz)
        have HX := hide (fun W => ref5_IsName_any (s.extract 0 k) W)
        have HYY := hide (fun W => ref5_IsName_any (s.extract (k + 1) s.size) W)
        generalize isNameB 24 (bs (s.extract (k + 1) s.size)) = r at *
        generalize isNameB 24 (bs (s.extract 0 k)) = q at *
        cases q
        · go_wp2_with fail
          refine (HX.out _).mono ?_; rintro e w' ⟨rfl, rfl⟩
          go_wp2
          go_ret
          exact ⟨ret_bool (by rw [HE.out]; rfl), rfl⟩
        · go_wp2_with fail
          refine (HX.out _).mono ?_; rintro e w' ⟨rfl, rfl⟩
          go_wp2_with fail
          refine (HYY.out _).mono ?_; rintro e w' ⟨rfl, rfl⟩
          go_wp2
          go_ret
          exact ⟨ret_bool (by rw [HE.out]; rfl), rfl⟩
      · have HE := hide (HNo.out hz)
        go_wp2_with fail
        refine (ref5_IsName_any s _).mono ?_; rintro e w' ⟨rfl, rfl⟩
        go_wp2
        go_ret
        exact ⟨ret_bool (by rw [HE.out]), rfl⟩
end Go.Proofs.YtmbeeefkpgfgmaaGreatDoor
namespace Go.Proofs.YtmbeeefkpgfgmaaGreatDoor
open Go.RowKit

theorem own_below {w w' : World} {base e size n : Nat} {v : Value} {xs : List Value} (h : w.ownsRow base e size v n xs) (hb : Below w.heap.size w w') : w'.ownsRow base e size v n xs :=
  h.kept (row := none) ⟨hb.os, hb.tape, hb.output, hb.size, fun i hi _ => hb.block i hi⟩ (by
    rcases h.2 with ⟨rfl, _⟩ | ⟨g, cap, cur, rfl, _⟩
    · left; rfl
    · right; simp [Value.ownBlock])
end Go.Proofs.YtmbeeefkpgfgmaaGreatDoor
namespace Go.Proofs.YtmbeeefkpgfgmaaGreatDoor
open Go.RowKit

def Skips (s : ByteArray) (i j : Nat) : Prop := i ≤ j ∧ j ≤ s.size ∧ ∀ acc, SplitRel (bs s) i acc → SplitRel (bs s) j acc
theorem Skips.refl {s : ByteArray} {i : Nat} (h : i ≤ s.size) : Skips s i i := ⟨Nat.le_refl _, h, fun _ h => h⟩
end Go.Proofs.YtmbeeefkpgfgmaaGreatDoor

namespace Go.Proofs.YtmbeeefkpgfgmaaGreatDoor
open Go.RowKit

end Go.Proofs.YtmbeeefkpgfgmaaGreatDoor

namespace Go.Proofs.YtmbeeefkpgfgmaaGreatDoor
open Go.RowKit

end Go.Proofs.YtmbeeefkpgfgmaaGreatDoor

namespace Go.Proofs.YtmbeeefkpgfgmaaGreatDoor
open Go.RowKit

end Go.Proofs.YtmbeeefkpgfgmaaGreatDoor
namespace Go.Proofs.YtmbeeefkpgfgmaaGreatDoor
open Go.RowKit

def ToksAt (w : World) (A : Option Addr) (ts : List Tok) : Prop :=
  ts = [] ∨ ∃ g off, A = some ⟨g, off, none⟩ ∧ g < w.heap.size ∧ ∀ i (h : i < ts.length),
    w.cell? ⟨g, off + i * 4, none⟩ = some (.int .i64 ts[i].kind) ∧ w.cell? ⟨g, off + i * 4 + 1, none⟩ = some (str ts[i].text) ∧
    w.cell? ⟨g, off + i * 4 + 2, none⟩ = some (.int .i64 ts[i].num) ∧ w.cell? ⟨g, off + i * 4 + 3, none⟩ = some (.int .i64 ts[i].off)
theorem ToksAt.below {w w' : World} {A : Option Addr} {ts : List Tok} (h : ToksAt w A ts) (hb : Below w.heap.size w w') : ToksAt w' A ts := by
  rcases h with h | ⟨g, off, hA, hg, hc⟩
  · exact .inl h
  · refine .inr ⟨g, off, hA, Nat.lt_of_lt_of_le hg hb.size, fun i hi => ?_⟩
    obtain ⟨h1, h2, h3, h4⟩ := hc i hi
    exact ⟨(hb.cell (p := ⟨g, _, none⟩) hg).trans h1, (hb.cell (p := ⟨g, _, none⟩) hg).trans h2, (hb.cell (p := ⟨g, _, none⟩) hg).trans h3, (hb.cell (p := ⟨g, _, none⟩) hg).trans h4⟩

end Go.Proofs.YtmbeeefkpgfgmaaGreatDoor

namespace Go.Proofs.YtmbeeefkpgfgmaaGreatDoor
open Go.RowKit

def wordsV : List ByteArray := wordsS.map fun l => ⟨l.toArray⟩
def hasB (ls : List Bytes) (x : Bytes) : Bool := ls.contains x
def resB (l : Bytes) : Bool := hasB wordsS l
theorem containsS_map (ls : List Bytes) (x : ByteArray) : Lib.containsS (ls.map fun l => (⟨l.toArray⟩ : ByteArray)) x = hasB ls (bs x) := by
  unfold hasB
  rw [Bool.eq_iff_iff, Lib.containsS_iff, List.contains_iff_mem, List.mem_map]
  constructor
  · rintro ⟨l, h, rfl⟩; exact h
  · intro h; exact ⟨bs x, h, mk_bs x⟩
set_option maxHeartbeats 1000000 in
theorem token_Reserved_w (s : ByteArray) (w : World) (hW : StrVar w 2 wordsS) : Calls Tryz.prog 89 #[.string s] w fun e w' => e = .returned (.bool (resB (bs s))) ∧ w = w' := by
  obtain ⟨hg, b, off, cp, hb, hv, hcells⟩ := hW
  have hl8 : wordsS.length = 8 := rfl
  rw [hl8] at hv hcells
  have HC := hide hcells; clear hcells hl8
  go_enter Tryz.func89, Tryz.ntmps89
  go_wp2_with fail
  refine (Tryz.slices_Contains_string b off 8 cp wordsV s _ (by decide) (by decide) (fun j hj => ?_)).mono ?_
  · have hj' : j < 8 := hj
    rw [HC.out j hj']
    match j, hj' with
    | 0, _ => rfl
    | 1, _ => rfl
    | 2, _ => rfl
    | 3, _ => rfl
    | 4, _ => rfl
    | 5, _ => rfl
    | 6, _ => rfl
    | 7, _ => rfl
  rintro e w' ⟨rfl, rfl⟩
  have HE := hide (show Lib.containsS (wordsV.take 8) s = resB (bs s) from containsS_map wordsS s)
  go_wp2
  go_ret
  exact ⟨ret_bool (by rw [← HE.out]), rfl⟩

/-! ### ref5.Has -/
def StrsAt (w : World) (A : Option Addr) (ls : List Bytes) : Prop :=
  ls = [] ∨ ∃ g off, A = some ⟨g, off, none⟩ ∧ g < w.heap.size ∧ ∀ i (h : i < ls.length), w.cell? ⟨g, off + i, none⟩ = some (str ls[i])
theorem StrsAt.below {w w' : World} {A : Option Addr} {ls : List Bytes} (h : StrsAt w A ls) (hb : Below w.heap.size w w') : StrsAt w' A ls := by
  rcases h with h | ⟨g, off, hA, hg, hc⟩
  · exact .inl h
  · exact .inr ⟨g, off, hA, Nat.lt_of_lt_of_le hg hb.size, fun i hi => (hb.cell (p := ⟨g, _, none⟩) hg).trans (hc i hi)⟩
theorem has_hit {ls : List Bytes} {x : Bytes} {k : Nat} (hk : k < ls.length) (h : ls[k] = x) : hasB ls x = true := by
  unfold hasB
  rw [List.contains_iff_mem]; exact h ▸ List.getElem_mem hk
theorem has_none {ls : List Bytes} {x : Bytes} (h : ∀ i (hi : i < ls.length), ls[i] ≠ x) : hasB ls x = false := by
  unfold hasB
  cases hc : ls.contains x
  · rfl
  · rw [List.contains_iff_mem, List.mem_iff_getElem] at hc
    obtain ⟨i, hi, e⟩ := hc
    exact absurd e (h i hi)
set_option maxHeartbeats 1000000 in
theorem ref5_Has_any (A : Option Addr) (ls : List Bytes) (c : Nat) (s : ByteArray) (w : World) (ha : StrsAt w A ls) (hl : ls.length ≤ 1000000) :
    Calls Tryz.prog 20 #[.slice A ls.length c, .string s] w fun e w' => e = .returned (.bool (hasB ls (bs s))) ∧ w = w' := by
  have HA := hide ha; clear ha
  go_enter Tryz.func20, Tryz.ntmps20
  go_wp2
  go_loop [5] (fun i => ∃ k : Nat, k ≤ ls.length ∧ i = .int .i64 k ∧ Hid (∀ i (hi : i < ls.length), i < k → ls[i] ≠ bs s)) (fun i => ls.length - (intOf i).toNat)
  case atStart => exact ⟨0, by omega, rfl, fun i _ h => absurd h (Nat.not_lt_zero _)⟩
  case round =>
    obtain ⟨k, hk, rfl, HN⟩ := hrel
    by_cases hlt : k < ls.length
    · rcases HA.out with h | ⟨g, off, rfl, hg, hc⟩
      · exact absurd hlt (by rw [h]; simp)
      have hx := hc k hlt
      clear hc
      by_cases he : ls[k] = bs s
      · have HE := hide (has_hit hlt he)
        have hb : (ls[k] == s.toList) = true := by rw [ByteArray.toList_eq]; simp [he, bs]
        clear he
        generalize ls[k] = x at *
        go_wp2
        go_ret
        exact ⟨ret_bool (by rw [HE.out]), rfl⟩
      · have HN' := hide (show ∀ i (hi : i < ls.length), i < k + 1 → ls[i] ≠ bs s from fun i hi h => by
          by_cases e : i = k
          · subst e; exact he
          · exact HN.out i hi (by omega))
        have hb : (ls[k] == s.toList) = false := by rw [ByteArray.toList_eq]; simpa [bs] using he
        clear he
        generalize ls[k] = x at *
        go_wp2
        go_round
        case rel => exact ⟨k + 1, by omega, by go_num, HN'⟩
        case measure => simp [intOf]; omega
    · have HE := hide (has_none (x := bs s) fun i hi => HN.out i hi (by omega))
      go_wp2
      go_ret
      exact ⟨ret_bool (by rw [HE.out]), rfl⟩

set_option maxHeartbeats 1000000 in
theorem ref7_Reserved_any (s : ByteArray) (w : World) : Calls Tryz.prog 99 #[.string s] w fun e w' => e = .returned (.bool (resB (bs s))) ∧ Below w.heap.size w w' := by
  go_enter Tryz.func99, Tryz.ntmps99
  go_wp2_with fail
  refine (ref5_Has_any _ wordsS 8 s _ (.inr ⟨w.heap.size, 0, rfl, by simp, fun i hi => ?_⟩) (by decide)).mono ?_
  · have hi' : i < 8 := hi
    rw [cell_of_heap (heap_alloc_new w _)]
    match i, hi' with
    | 0, _ => rfl
    | 1, _ => rfl
    | 2, _ => rfl
    | 3, _ => rfl
    | 4, _ => rfl
    | 5, _ => rfl
    | 6, _ => rfl
    | 7, _ => rfl
  rintro e w' ⟨rfl, rfl⟩
  have HE := hide (show hasB wordsS (bs s) = resB (bs s) from rfl)
  go_wp2
  go_ret
  exact ⟨ret_bool (by rw [← HE.out]), by (repeat (first | exact Below.refl _ _ | assumption | refine Below.drew ?_ | refine below_drewN ?_ _ | refine Below.alloc ?_ (by first | omega | simp <;> omega) _ | refine Below.setCell ?_ (by first | omega | simp <;> omega) _))⟩

end Go.Proofs.YtmbeeefkpgfgmaaGreatDoor
namespace Go.Proofs.YtmbeeefkpgfgmaaGreatDoor
open Go.RowKit
theorem strs_getD (ls : List Bytes) (j : Nat) (h : j < ls.length) : (ls.map fun l => (⟨l.toArray⟩ : ByteArray)).getD j ByteArray.empty = ⟨(ls.getD j []).toArray⟩ := by
  simp [List.getD_eq_getElem?_getD, h]
theorem contains_any (b off cp : Nat) (ls : List Bytes) (x : ByteArray) (w : World) (hn : ls.length ≤ 9223372036854775807) (hc : ∀ j, j < ls.length → w.cell? ⟨b, off + j, none⟩ = some (str (ls.getD j []))) :
    Calls Tryz.prog 68 #[.slice (some ⟨b, off, none⟩) ls.length cp, .string x] w fun e w' => e = .returned (.bool (hasB ls (bs x))) ∧ w = w' := by
  refine (Tryz.slices_Contains_string b off ls.length cp (ls.map fun l => ⟨l.toArray⟩) x w (by simp) hn (fun j hj => ?_)).mono fun e w' ⟨h1, h2⟩ => ⟨?_, h2.symm⟩
  · have hj' : j < ls.length := by simpa using hj
    rw [hc j hj', strs_getD ls j hj']
  · rw [h1, List.take_of_length_le (by simp), containsS_map]
theorem bs_toList (s : ByteArray) : bs s = s.toList := (ByteArray.toList_eq s).symm
theorem bs_len (s : ByteArray) : s.toList.length = s.size := by rw [← bs_toList]; rfl
end Go.Proofs.YtmbeeefkpgfgmaaGreatDoor

namespace Go.Proofs.YtmbeeefkpgfgmaaGreatDoor
open Go.RowKit
end Go.Proofs.YtmbeeefkpgfgmaaGreatDoor

namespace Go.Proofs.YtmbeeefkpgfgmaaGreatDoor
open Go.RowKit
/-! ### the reference -/
end Go.Proofs.YtmbeeefkpgfgmaaGreatDoor
