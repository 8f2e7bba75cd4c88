/- The plain functions of names and of single tokens, for TokenValidates. Contract: ref5.IsName. Contract: schema.IsName (a range over a string's runes). Contracts: strings.Cut at a dot; schema.IsQualified, ref5.IsQualified. -/
import Derived.Test.YtlfedcbihbigoaaGreatDoorSplitS
import Derived.Test.YtlfedcbihbigoaaGreatDoorShelf
import Derived.Test.YtlfedcbihbigoaaGreatDoorTokAD
import Derived.Laws.RangeString
import Derived.Laws.RangeAny
import Derived.Test.YtlfedcbihbigoaaGreatDoorBase0
import Derived.IntWalk
import Derived.Deep.QuietTactic
import Derived.BigQuiet
set_option linter.unusedVariables false
set_option linter.unusedSimpArgs false
namespace Go.Proofs.YtlfedcbihbigoaaGreatDoor
open Go.RowKit
/-- A name: a letter, then letters, digits and underscores, at most so many. -/
def isNameB (maxName : Nat) (l : Bytes) : Bool := decide (l.length ≤ maxName) && (match l with | [] => false | c :: r => letB c && r.all wordB)
/-- Where the first dot is, or the length. -/
def dotL (l : Bytes) : Nat := (l.takeWhile fun c => c.toNat != 46).length
/-- A name, or two with a dot between them. -/
def isQualB (maxName : Nat) (l : Bytes) : Bool :=
  if dotL l < l.length then isNameB maxName (l.take (dotL l)) && isNameB maxName (l.drop (dotL l + 1)) else isNameB maxName l
theorem dotL_le (l : Bytes) : dotL l ≤ l.length := (List.takeWhile_sublist _).length_le
theorem dotL_lt : ∀ (l : Bytes) (k : Nat) (_ : k < dotL l), ∃ h' : k < l.length, (l[k]'h').toNat ≠ 46
  | [], k, h => by simp [dotL] at h
  | c :: l, k, h => by
    unfold dotL at h
    rw [List.takeWhile_cons] at h
    by_cases hc : (c.toNat != 46) = true
    · rw [if_pos hc] at h
      match k with
      | 0 => exact ⟨by simp, by simpa using hc⟩
      | k + 1 =>
        obtain ⟨h1, h2⟩ := dotL_lt l k (by simpa [dotL] using h)
        exact ⟨by simpa using h1, by simpa using h2⟩
    · rw [if_neg hc] at h; simp at h
theorem dotL_stop : ∀ (l : Bytes) (h : dotL l < l.length), (l[dotL l]'h).toNat = 46
  | [], h => by simp [dotL] at h
  | c :: l, h => by
    by_cases hc : (c.toNat != 46) = true
    · have e : dotL (c :: l) = dotL l + 1 := by unfold dotL; rw [List.takeWhile_cons, if_pos hc]; simp
      have h' : dotL l < l.length := by rw [e] at h; simpa using h
      have := dotL_stop l h'
      simpa [e] using this
    · have e : dotL (c :: l) = 0 := by unfold dotL; rw [List.takeWhile_cons, if_neg hc]; simp
      have hc' : c.toNat = 46 := by simpa using hc
      simpa [e] using hc'
theorem dotL_idx : ∀ l : Bytes, (Lib.indexByte l 46 < 0 → dotL l = l.length) ∧ (¬ Lib.indexByte l 46 < 0 → Lib.indexByte l 46 = dotL l ∧ dotL l < l.length)
  | [] => by simp [Lib.indexByte, dotL]
  | c :: l => by
    obtain ⟨i1, i2⟩ := dotL_idx l
    have hge := Lib.indexByte_ge l 46
    by_cases hc : c.toNat = 46
    · have e : c = 46 := by apply UInt8.toNat_inj.1; rw [hc]; rfl
      subst e
      simp [Lib.indexByte, dotL]
    · have hne : (c == 46) = false := by rw [beq_eq_false_iff_ne]; intro e; subst e; exact hc rfl
      have hn : (c.toNat != 46) = true := by simp [hc]
      have el : dotL (c :: l) = dotL l + 1 := by unfold dotL; rw [List.takeWhile_cons, if_pos hn]; simp
      rw [el]
      unfold Lib.indexByte
      rw [hne]
      simp only [Bool.false_eq_true, if_false]
      by_cases hm : Lib.indexByte l 46 = -1
      · rw [hm]; simp; rw [i1 (by omega)]
      · have hm' : (Lib.indexByte l 46 == -1) = false := by simp [hm]
        rw [hm']; simp
        have := i2 (by omega)
        omega

/-! ### single tokens -/
def symB (x : Bytes) : Bool := symbolsS.contains x
/-- The fields of a token are possible: the kind 0 is an end. -/
def okTok (k : Int) (x : Bytes) (n : Int) : Bool :=
  if k = 0 then x.isEmpty && n == 0
  else if k = 1 then isQualB 24 x && n == 0
  else if k = 2 then x.isEmpty && (decide (0 ≤ n) && decide (n ≤ 1073741824))
  else if k = 3 then decide (x.length ≤ 64) && n == 0
  else if k = 4 then x.isEmpty && (decide (0 ≤ n) && decide (n ≤ 575999999))
  else if k = 5 then symB x && n == 0
  else false
def Tok.ok (t : Tok) : Bool := okTok t.kind t.text t.num
/-- A list that the splitter can return. -/
def valT : List Tok → Bool
  | [] => false
  | [t] => t.ok && (t.kind == 0)
  | t :: u :: ts => (t.ok && (t.kind != 0)) && valT (u :: ts)
theorem valT_iff : ∀ ts : List Tok, valT ts = true ↔ 0 < ts.length ∧ ∀ i (h : i < ts.length), ts[i].ok = true ∧ (ts[i].kind = 0 ↔ i = ts.length - 1)
  | [] => by simp [valT]
  | [t] => by
    simp only [valT, Bool.and_eq_true, beq_iff_eq, List.length_singleton]
    constructor
    · rintro ⟨h1, h2⟩
      exact ⟨by omega, fun i h => by obtain rfl : i = 0 := by omega
                                     exact ⟨h1, by simp [h2]⟩⟩
    · rintro ⟨_, h⟩
      have h0 := h 0 (by omega)
      exact ⟨h0.1, h0.2.2 rfl⟩
  | t :: u :: ts => by
    have ih := valT_iff (u :: ts)
    simp only [valT, Bool.and_eq_true, bne_iff_ne, ih]
    simp only [List.length_cons]
    constructor
    · rintro ⟨⟨h1, h2⟩, _, h3⟩
      refine ⟨by omega, fun i h => ?_⟩
      match i with
      | 0 => exact ⟨h1, by simp; exact h2⟩
      | i + 1 =>
        have := h3 i (by omega)
        refine ⟨this.1, ?_⟩
        have h2 : ((t :: u :: ts)[i + 1].kind = 0 ↔ i = ts.length + 1 - 1) := this.2
        rw [h2]
        omega
    · rintro ⟨_, h⟩
      have h0 := h 0 (by omega)
      refine ⟨⟨h0.1, fun e => ?_⟩, by omega, fun i hi => ?_⟩
      · have := h0.2.1 e; omega
      · have := h (i + 1) (by omega)
        refine ⟨this.1, ?_⟩
        have h2 : ((u :: ts)[i].kind = 0 ↔ i + 1 = ts.length + 1 + 1 - 1) := this.2
        rw [h2]; omega
def valE (ts : List Tok) : Int := if valT ts = true then 0 else 8
end Go.Proofs.YtlfedcbihbigoaaGreatDoor

namespace Go.Proofs.YtlfedcbihbigoaaGreatDoor
open Go.RowKit
theorem isNameB_long {m : Nat} {s : ByteArray} (h : m < s.size) : isNameB m (bs s) = false := by
  unfold isNameB
  rw [decide_eq_false (by rw [bs_length]; omega)]; rfl
theorem isNameB_nil {m : Nat} {s : ByteArray} (h : s.size = 0) : isNameB m (bs s) = false := by
  have : bs s = [] := List.eq_nil_of_length_eq_zero h
  rw [this]; simp [isNameB]
theorem isNameB_head {m : Nat} {s : ByteArray} (h : 0 < s.size) (hc : letB s[0] = false) : isNameB m (bs s) = false := by
  unfold isNameB
  have e : (bs s)[0]'h = s[0] := rfl
  cases hb : bs s with
  | nil => simp
  | cons c r =>
    have : c = s[0] := by rw [← e]; simp [hb]
    simp [this, hc]
theorem isNameB_bad {m : Nat} {s : ByteArray} {k : Nat} (h : k < s.size) (hc : wordB s[k] = false) : isNameB m (bs s) = false := by
  unfold isNameB
  have e : (bs s)[k]'h = s[k] := rfl
  cases hb : bs s with
  | nil => simp
  | cons c r =>
    have e2 : (c :: r)[k]'(by rw [← hb]; exact h) = s[k] := by rw [← e]; simp [hb]
    have : letB c = false ∨ r.all wordB = false := by
      cases k with
      | zero =>
        left
        have : c = s[0] := e2
        rw [this]; exact (wordB_no hc).1
      | succ k =>
        right
        rw [List.all_eq_false]
        exact ⟨s[k+1], by rw [← e2]; simp, by simp [hc]⟩
    rcases this with h | h <;> simp [h]
theorem isNameB_good {m : Nat} {s : ByteArray} (h0 : 0 < s.size) (h1 : s.size ≤ m) (hc : letB s[0] = true) (ha : ∀ k (hk : k < s.size), wordB s[k] = true) : isNameB m (bs s) = true := by
  unfold isNameB
  rw [decide_eq_true (by rw [bs_length]; omega)]
  have e : (bs s)[0]'h0 = s[0] := rfl
  cases hb : bs s with
  | nil => have : (bs s).length = 0 := by rw [hb]; rfl
           rw [bs_length] at this; omega
  | cons c r =>
    have e1 : c = s[0] := by rw [← e]; simp [hb]
    have : r.all wordB = true := by
      rw [List.all_eq_true]
      intro x hx
      obtain ⟨i, hi, rfl⟩ := List.mem_iff_getElem.1 hx
      have hk : i + 1 < s.size := by rw [← bs_length, hb]; simp; omega
      have e3 : (bs s)[i+1]'hk = s[i+1] := rfl
      have : r[i] = s[i+1] := by rw [← e3]; simp [hb]
      rw [this]; exact ha _ hk
    simp [e1, hc, this]
theorem letB_split {c : UInt8} (h : letB c = true) : 97 ≤ c.toNat ∧ c.toNat ≤ 122 := by
  unfold letB at h; simpa using h
set_option maxHeartbeats 1000000 in
theorem ref5_IsName_any (s : ByteArray) (w : World) :
    Calls Tryz.prog 105 #[.string s] w fun e w' => e = .returned (.bool (isNameB 24 (bs s))) ∧ w = w' := by
  by_cases h0 : s.size = 0
  · have HE := hide (isNameB_nil (m := 24) h0)
    have hlt : decide ((s.size : Int) < 1) = true := by simp; omega
    go_enter Tryz.func105, Tryz.ntmps105
    go_wp2
    go_ret
    exact ⟨ret_bool (by rw [HE.out]), rfl⟩
  by_cases h1 : 24 < s.size
  · have HE := hide (isNameB_long h1)
    have hlt : decide ((s.size : Int) < 1) = false := by simp; omega
    have hgt : decide (24 < (s.size : Int)) = true := by simp; omega
    go_enter Tryz.func105, Tryz.ntmps105
    go_wp2
    go_ret
    exact ⟨ret_bool (by rw [HE.out]), rfl⟩
  have hz : 0 < s.size := by omega
  have hlt : decide ((s.size : Int) < 1) = false := by simp; omega
  have hgt : decide (24 < (s.size : Int)) = false := by simp; omega
  cases hc : letB s[0] with
  | false =>
    have HE := hide (isNameB_head (m := 24) hz hc)
    unfold letB at hc
    by_cases hA : s[0].toNat < 97
    · have g1 : decide ((s[0].toNat : Int) < 97) = true := by simp; omega
      clear hc
      go_enter Tryz.func105, Tryz.ntmps105
      go_wp2
      go_ret
      exact ⟨ret_bool (by rw [HE.out]), rfl⟩
    · have g1 : decide ((s[0].toNat : Int) < 97) = false := by simp; omega
      have g3 : 122 < s[0].toNat := by simp at hc; omega
      have g2 : decide (122 < (s[0].toNat : Int)) = true := by simp; omega
      clear hc
      go_enter Tryz.func105, Tryz.ntmps105
      go_wp2
      go_ret
      exact ⟨ret_bool (by rw [HE.out]), rfl⟩
  | true =>
    have HC := hide hc
    have hc' := letB_split hc
    have g1 : decide ((s[0].toNat : Int) < 97) = false := by simp; omega
    have g2 : decide (122 < (s[0].toNat : Int)) = false := by simp; omega
    clear hc
    go_enter Tryz.func105, Tryz.ntmps105
    go_wp2
    clear g1 g2 hc' hlt hgt
    go_loop [3] (fun i => ∃ k : Nat, k ≤ s.size ∧ i = .int .i64 k ∧ Hid (∀ j (hj : j < s.size), j < k → wordB s[j] = true)) (fun i => s.size - (intOf i).toNat)
    case atStart => exact ⟨0, by omega, rfl, fun j _ h => absurd h (Nat.not_lt_zero _)⟩
    case round =>
      obtain ⟨k, hk, rfl, HN⟩ := hrel
      by_cases hlt : k < s.size
      · by_cases hw : wordB s[k] = true
        · have HN' := hide (show ∀ j (hj : j < s.size), j < k + 1 → wordB s[j] = true from fun j hj h => by
            by_cases e : j = k
            · subst e; exact hw
            · exact HN.out j hj (by omega))
          by_cases hA : 97 ≤ s[k].toNat ∧ s[k].toNat ≤ 122
          · clear hw
            go_wp2
            go_round
            case rel => exact ⟨k + 1, by omega, by go_num, HN'⟩
            case measure => simp [intOf]; omega
          · have hcs := wordB_cases hw
            clear hw
            by_cases hD : 48 ≤ s[k].toNat ∧ s[k].toNat ≤ 57
            · have hlt97 : s[k].toNat < 97 := by omega
              clear hcs hA
              go_wp2
              go_round
              case rel => exact ⟨k + 1, by omega, by go_num, HN'⟩
              case measure => simp [intOf]; omega
            · have h95 : s[k].toNat = 95 := by
                unfold letB digB at hcs
                simp at hcs
                omega
              clear hcs hA hD
              have hne : ((s[k].toNat : Int) != 95) = false := by simp; omega
              go_wp2
              go_round
              case rel => exact ⟨k + 1, by omega, by go_num, HN'⟩
              case measure => simp [intOf]; omega
        · have hw' : wordB s[k] = false := by simpa using hw
          have HE := hide (isNameB_bad (m := 24) hlt hw')
          obtain ⟨n1, n2, n3⟩ := wordB_no hw'
          have hne : ((s[k].toNat : Int) != 95) = true := by simp at n3 ⊢; omega
          unfold letB at n1
          unfold digB at n2
          simp at n1 n2
          clear hw hw' n3
          by_cases hA : s[k].toNat < 48
          · have hB : s[k].toNat < 97 := by omega
            clear n1 n2
            go_wp2
            go_ret
            exact ⟨ret_bool (by rw [HE.out]), rfl⟩
          · have hC : 57 < s[k].toNat := by omega
            have d57 : decide ((s[k].toNat : Int) ≤ 57) = false := by simp; omega
            by_cases hB : s[k].toNat < 97
            · clear n1 n2
              go_wp2
              go_ret
              exact ⟨ret_bool (by rw [HE.out]), rfl⟩
            · have hD : 122 < s[k].toNat := by omega
              have d122 : decide ((s[k].toNat : Int) ≤ 122) = false := by simp; omega
              clear n1 n2
              go_wp2
              go_ret
              exact ⟨ret_bool (by rw [HE.out]), rfl⟩
      · have HE := hide (isNameB_good (m := 24) hz (by omega) HC.out fun j hj => HN.out j hj (by omega))
        go_wp2
        go_ret
        exact ⟨ret_bool (by rw [HE.out]), rfl⟩
end Go.Proofs.YtlfedcbihbigoaaGreatDoor

namespace Go.Proofs.YtlfedcbihbigoaaGreatDoor
open Go.RowKit
def NameRel (s : ByteArray) (pos : Nat) : Prop := (∀ (h : 0 < s.size), 0 < pos → letB s[0] = true) ∧ ∀ j (hj : j < s.size), j < pos → wordB s[j] = true
theorem NameRel_start (s : ByteArray) : NameRel s 0 := ⟨fun _ h => absurd h (Nat.not_lt_zero _), fun _ _ h => absurd h (Nat.not_lt_zero _)⟩
theorem letB_mk {c : UInt8} (h : 97 ≤ c.toNat ∧ c.toNat ≤ 122) : letB c = true := by unfold letB; simp; exact h
theorem letB_not {c : UInt8} (h : ¬ (97 ≤ c.toNat ∧ c.toNat ≤ 122)) : letB c = false := by
  cases hc : letB c
  · rfl
  · exact absurd (letB_split hc) h
theorem wordB_mk {c : UInt8} (h : letB c = true ∨ c.toNat = 95 ∨ (48 ≤ c.toNat ∧ c.toNat ≤ 57)) : wordB c = true := by
  unfold wordB
  rcases h with h | h | h
  · rw [h]; rfl
  · simp [h]
  · unfold digB; simp [h.1, h.2]
theorem wordB_not {c : UInt8} (h : letB c = false) (h2 : ¬ c.toNat = 95) (h3 : ¬ (48 ≤ c.toNat ∧ c.toNat ≤ 57)) : wordB c = false := by
  unfold wordB digB
  rw [h]
  simp
  exact ⟨by omega, h2⟩
theorem NameRel_step {s : ByteArray} {pos : Nat} (h : NameRel s pos) (hp : pos < s.size) (hw : wordB s[pos] = true) (h0 : pos = 0 → letB s[pos] = true) : NameRel s (pos + 1) := by
  refine ⟨fun h1 _ => ?_, fun j hj h1 => ?_⟩
  · by_cases e : pos = 0
    · subst e; exact h0 rfl
    · exact h.1 h1 (by omega)
  · by_cases e : j = pos
    · subst e; exact hw
    · exact h.2 j hj (by omega)
theorem NameRel_end {s : ByteArray} (h : NameRel s s.size) (h1 : ¬ 24 < s.size) : isNameB 24 (bs s) = !s.toList.isEmpty := by
  by_cases h0 : s.size = 0
  · rw [isNameB_nil h0]
    have : s.toList = [] := by rw [ByteArray.toList_eq]; exact List.eq_nil_of_length_eq_zero h0
    rw [this]; rfl
  · rw [isNameB_good (by omega) (by omega) (h.1 (by omega) (by omega)) fun k hk => h.2 k hk hk]
    have : s.toList ≠ [] := by
      rw [ByteArray.toList_eq]; intro e
      have : s.data.toList.length = 0 := by rw [e]; rfl
      exact h0 this
    cases hs : s.toList with
    | nil => exact absurd hs this
    | cons => rfl
theorem iter_below (w : World) (s : ByteArray) (pos : Nat) : Below w.heap.size w (w.iter s pos) := (Below.refl _ _).alloc (Nat.le_refl _) _
set_option maxHeartbeats 2000000 in
theorem schema_IsName_any (s : ByteArray) (w : World) :
    Calls Tryz.prog 89 #[.string s] w fun e w' => e = .returned (.bool (isNameB 24 (bs s))) ∧ Below w.heap.size w w' := by
  by_cases h1 : 24 < s.size
  · have HE := hide (isNameB_long h1)
    have hgt : decide (24 < (s.size : Int)) = true := by simp; omega
    go_enter Tryz.func89, Tryz.ntmps89
    go_wp2
    go_ret
    exact ⟨ret_bool (by rw [HE.out]), Below.refl _ _⟩
  have hgt : decide (24 < (s.size : Int)) = false := by simp; omega
  go_enter Tryz.func89, Tryz.ntmps89
  go_wp2
  clear hgt
  go_loopw [3] (fun n w' => ∃ (pos : Nat), w' = w.iter s pos ∧ pos ≤ s.size ∧ Hid (NameRel s pos)) (fun _ w' => s.size - w'.iterPos w.heap.size)
  case atStart => exact ⟨0, rfl, by omega, NameRel_start s⟩
  case round =>
    obtain ⟨pos, rfl, hk, HN⟩ := hrel
    by_cases hlt : pos < s.size
    · by_cases ha : (s[pos]).toNat < 128
      · have hnx := fun ty => run_next_ascii (P := Tryz.prog) w s pos ty hlt ha
        by_cases hA : 97 ≤ s[pos].toNat ∧ s[pos].toNat ≤ 122
        · have HN' := hide (NameRel_step HN.out hlt (wordB_mk (.inl (letB_mk hA))) fun _ => letB_mk hA)
          go_wp2
          exact ⟨⟨pos + 1, rfl, by omega, HN'⟩, by simp; omega⟩
        · have hl := letB_not hA
          by_cases h0 : pos = 0
          · subst h0
            have HE := hide (isNameB_head (m := 24) hlt hl)
            clear hl
            by_cases hB : s[0].toNat < 97
            · clear hA
              go_wp2
              go_ret
              exact ⟨ret_bool (by rw [HE.out]), iter_below _ _ _⟩
            · have hC : 122 < s[0].toNat := by omega
              have d122 : decide ((s[0].toNat : Int) ≤ 122) = false := by simp; omega
              clear hA
              go_wp2
              go_ret
              exact ⟨ret_bool (by rw [HE.out]), iter_below _ _ _⟩
          · have hp0 : ((pos : Int) == 0) = false := by simp; omega
            by_cases h95 : s[pos].toNat = 95
            · have HN' := hide (NameRel_step HN.out hlt (wordB_mk (.inr (.inl h95))) fun e => absurd e h0)
              have hne : ((s[pos].toNat : Int) != 95) = false := by simp; omega
              have hB : s[pos].toNat < 97 := by omega
              clear hA hl h95
              go_wp2
              exact ⟨⟨pos + 1, rfl, by omega, HN'⟩, by simp; omega⟩
            · have hne : ((s[pos].toNat : Int) != 95) = true := by simp; omega
              by_cases hD : 48 ≤ s[pos].toNat ∧ s[pos].toNat ≤ 57
              · have HN' := hide (NameRel_step HN.out hlt (wordB_mk (.inr (.inr hD))) fun e => absurd e h0)
                have hB : s[pos].toNat < 97 := by omega
                clear hA hl h95
                go_wp2
                exact ⟨⟨pos + 1, rfl, by omega, HN'⟩, by simp; omega⟩
              · have HE := hide (isNameB_bad (m := 24) hlt (wordB_not hl h95 hD))
                clear hl h95
                by_cases hB : s[pos].toNat < 48
                · have hB2 : s[pos].toNat < 97 := by omega
                  clear hA hD
                  go_wp2
                  go_ret
                  exact ⟨ret_bool (by rw [HE.out]), iter_below _ _ _⟩
                · have hC : 57 < s[pos].toNat := by omega
                  by_cases hB2 : s[pos].toNat < 97
                  · clear hA hD
                    go_wp2
                    go_ret
                    exact ⟨ret_bool (by rw [HE.out]), iter_below _ _ _⟩
                  · have hC2 : 122 < s[pos].toNat := by omega
                    have d122 : decide ((s[pos].toNat : Int) ≤ 122) = false := by simp; omega
                    clear hA hD
                    go_wp2
                    go_ret
                    exact ⟨ret_bool (by rw [HE.out]), iter_below _ _ _⟩
      · have hnx := fun ty => run_next_any (P := Tryz.prog) w s pos ty hlt
        obtain ⟨hd1, hd2⟩ := decode_high s pos hlt (by omega)
        have hl : letB s[pos] = false := letB_not (by omega)
        have HE := hide (isNameB_bad (m := 24) hlt (wordB_not hl (by omega) (by omega)))
        have d122 : decide (((Utf8.decode s pos).1 : Int) ≤ 122) = false := by simp; omega
        have hne : (((Utf8.decode s pos).1 : Int) != 95) = true := by simp; omega
        clear hl ha
        generalize Utf8.decode s pos = d at *
        by_cases h0 : pos = 0
        · subst h0
          go_wp2
          go_ret
          exact ⟨ret_bool (by rw [HE.out]), iter_below _ _ _⟩
        · have hp0 : ((pos : Int) == 0) = false := by simp; omega
          go_wp2
          go_ret
          exact ⟨ret_bool (by rw [HE.out]), iter_below _ _ _⟩
    · obtain rfl : pos = s.size := by omega
      have hnx := fun ty => run_next_end (P := Tryz.prog) w s s.size ty hlt
      have HE := hide (NameRel_end HN.out h1)
      go_wp2
      go_ret
      exact ⟨ret_bool (by rw [HE.out]), iter_below _ _ _⟩
end Go.Proofs.YtlfedcbihbigoaaGreatDoor

namespace Go.Proofs.YtlfedcbihbigoaaGreatDoor
open Go.RowKit
theorem slIndex_dot (s : ByteArray) (w : World) : Calls Tryz.prog 167 #[.string s, .string ⟨#[46]⟩] w fun e w' => e = .returned (.int .i64 (Lib.indexByte (bs s) 46)) ∧ w = w' :=
  (Tryz.stringslite_Index_one s 46 w).mono fun _ _ ⟨h1, h2⟩ => ⟨h1, h2.symm⟩
set_option maxHeartbeats 1000000 in
theorem slCut_no (s : ByteArray) (w : World) (hs : s.size ≤ maxLen) (h : ¬ dotL (bs s) < s.size) :
    Calls Tryz.prog 150 #[.string s, .string ⟨#[46]⟩] w fun e w' => e = .returned (.tuple #[.string s, .string ⟨#[]⟩, .bool false]) ∧ w = w' := by
  unfold maxLen at hs
  obtain ⟨h1, h2⟩ := dotL_idx (bs s)
  rw [bs_length] at h2
  have hn : Lib.indexByte (bs s) 46 < 0 := by
    rcases Int.lt_or_le (Lib.indexByte (bs s) 46) 0 with h3 | h3
    · exact h3
    · exact absurd (h2 (by omega)).2 h
  have HI := hide (fun W => slIndex_dot s W)
  clear h1 h2 h
  generalize Lib.indexByte (bs s) 46 = i at *
  have hi : decide (0 ≤ i) = false := by simp; omega
  go_enter Tryz.func150, Tryz.ntmps150
  go_wp2_with (go_at_call 167; refine (HI.out _).mono ?_; rintro e w' ⟨rfl, rfl⟩)
  go_ret3
  exact ⟨rfl, rfl⟩
set_option maxHeartbeats 1000000 in
theorem slCut_yes (s : ByteArray) (w : World) (hs : s.size ≤ maxLen) (h : dotL (bs s) < s.size) :
    Calls Tryz.prog 150 #[.string s, .string ⟨#[46]⟩] w fun e w' => e = .returned (.tuple #[.string (s.extract 0 (dotL (bs s))), .string (s.extract (dotL (bs s) + 1) s.size), .bool true]) ∧ ∃ n, w' = w.drewN n := by
  unfold maxLen at hs
  obtain ⟨h1, h2⟩ := dotL_idx (bs s)
  have hn : ¬ Lib.indexByte (bs s) 46 < 0 := fun h3 => by
    have := h1 h3
    rw [bs_length] at this; omega
  have HI := hide (fun W => slIndex_dot s W)
  rw [(h2 hn).1] at HI
  clear h1 h2 hn
  generalize dotL (bs s) = d at *
  go_enter Tryz.func150, Tryz.ntmps150
  go_wp2_with (go_at_call 167; refine (HI.out _).mono ?_; rintro e w' ⟨rfl, rfl⟩)
  have hw : IntKind.i64.wrap ((d : Int) + 1) = (d : Int) + 1 := IntWalk.i64_in _ (by omega)
  have h0 : (0 : Int) ≤ (d : Int) + 1 := by omega
  have h1 : ((d : Int) + 1).toNat = d + 1 := by omega
  go_big_quiet (fail)
  go_wp2
  go_ret3
  exact ⟨rfl, _, rfl⟩
set_option maxHeartbeats 1000000 in
theorem Cut_no (s : ByteArray) (w : World) (hs : s.size ≤ maxLen) (h : ¬ dotL (bs s) < s.size) :
    Calls Tryz.prog 120 #[.string s, .string ⟨#[46]⟩] w fun e w' => e = .returned (.tuple #[.string s, .string ⟨#[]⟩, .bool false]) ∧ w = w' := by
  have HC := hide (fun W => slCut_no s W hs h)
  clear h
  go_enter Tryz.func120, Tryz.ntmps120
  go_wp2_with (go_at_call 150; refine (HC.out _).mono ?_; rintro e w' ⟨rfl, rfl⟩)
  go_ret3
  exact ⟨rfl, rfl⟩
set_option maxHeartbeats 1000000 in
theorem Cut_yes (s : ByteArray) (w : World) (hs : s.size ≤ maxLen) (h : dotL (bs s) < s.size) :
    Calls Tryz.prog 120 #[.string s, .string ⟨#[46]⟩] w fun e w' => e = .returned (.tuple #[.string (s.extract 0 (dotL (bs s))), .string (s.extract (dotL (bs s) + 1) s.size), .bool true]) ∧ ∃ n, w' = w.drewN n := by
  have HC := hide (fun W => slCut_yes s W hs h)
  clear h
  go_enter Tryz.func120, Tryz.ntmps120
  go_wp2_with (go_at_call 150; refine (HC.out _).mono ?_; rintro e w' ⟨rfl, n, rfl⟩)
  go_ret3
  exact ⟨rfl, _, rfl⟩
theorem isQualB_yes {s : ByteArray} (h : dotL (bs s) < s.size) : isQualB 24 (bs s) = (isNameB 24 (bs (s.extract 0 (dotL (bs s)))) && isNameB 24 (bs (s.extract (dotL (bs s) + 1) s.size))) := by
  unfold isQualB
  rw [if_pos (by rw [bs_length]; exact h), bs_from, bs_extract]; rfl
theorem isQualB_no {s : ByteArray} (h : ¬ dotL (bs s) < s.size) : isQualB 24 (bs s) = isNameB 24 (bs s) := by
  unfold isQualB
  rw [if_neg (by rw [bs_length]; exact h)]
set_option maxHeartbeats 2000000 in
theorem schema_IsQualified_any (s : ByteArray) (w : World) (hs : s.size ≤ maxLen) :
    Calls Tryz.prog 83 #[.string s] w fun e w' => e = .returned (.bool (isQualB 24 (bs s))) ∧ Below w.heap.size w w' := by
  by_cases h : dotL (bs s) < s.size
  · have HE := hide (isQualB_yes h)
    have HC := hide (fun W => Cut_yes s W hs h)
    clear h
    generalize s.extract 0 (dotL (bs s)) = x at *
    generalize s.extract (dotL (bs s) + 1) s.size = y at *
    have HX := hide (fun W => schema_IsName_any x W)
    have HY := hide (fun W => schema_IsName_any y W)
    cases hx : isNameB 24 (bs x)
    · rw [hx] at HX HE
      clear hx
      go_enter Tryz.func83, Tryz.ntmps83
      go_wp2_with fail
      refine (HC.out _).mono ?_; rintro e w' ⟨rfl, n, rfl⟩
      go_wp2_with fail
      refine (HX.out _).mono ?_; rintro e w1 ⟨rfl, hb⟩
      go_wp2
      go_ret
      exact ⟨ret_bool (by rw [HE.out]; rfl), (below_drewN (Below.refl _ _) n).trans hb⟩
    · rw [hx] at HX HE
      clear hx
      rw [Bool.true_and] at HE
      generalize isNameB 24 (bs y) = r at *
      go_enter Tryz.func83, Tryz.ntmps83
      go_wp2_with fail
      refine (HC.out _).mono ?_; rintro e w' ⟨rfl, n, rfl⟩
      go_wp2_with fail
      refine (HX.out _).mono ?_; rintro e w1 ⟨rfl, hb⟩
      go_wp2_with fail
      refine (HY.out _).mono ?_; rintro e w2 ⟨rfl, hb2⟩
      go_wp2
      go_ret
      exact ⟨ret_bool (by rw [HE.out]), (below_drewN (Below.refl _ _) n).trans (hb.trans (hb2.mono hb.size))⟩
  · have HE := hide (isQualB_no h)
    have HC := hide (fun W => Cut_no s W hs h)
    clear h
    have HX := hide (fun W => schema_IsName_any s W)
    generalize isNameB 24 (bs s) = r at *
    cases r
    all_goals
      go_enter Tryz.func83, Tryz.ntmps83
      go_wp2_with fail
      refine (HC.out _).mono ?_; rintro e w' ⟨rfl, rfl⟩
      go_wp2_with fail
      refine (HX.out _).mono ?_; rintro e w1 ⟨rfl, hb⟩
      go_wp2
      go_ret
      exact ⟨ret_bool (by rw [HE.out]), hb⟩
set_option maxHeartbeats 2000000 in
theorem ref5_IsQualified_any (s : ByteArray) (w : World) (hs : s.size ≤ maxLen) :
    Calls Tryz.prog 91 #[.string s] w fun e w' => e = .returned (.bool (isQualB 24 (bs s))) ∧ w = w' := by
  unfold maxLen at hs
  have hd := dotL_le (bs s)
  rw [bs_length] at hd
  have HL := hide (fun k h => dotL_lt (bs s) k h)
  have HS := hide (fun h => dotL_stop (bs s) h)
  have HY := hide (fun h => isQualB_yes (s := s) h)
  have HNo := hide (fun h => isQualB_no (s := s) h)
  generalize hdd : dotL (bs s) = d at *
  clear hdd
  go_enter Tryz.func91, Tryz.ntmps91
  go_wp2
  go_loop [3] (fun i => ∃ k : Nat, k ≤ d ∧ i = .int .i64 k) (fun i => d - (intOf i).toNat)
  case atStart => exact ⟨0, by omega, rfl⟩
  case round =>
    obtain ⟨k, hk, rfl⟩ := hrel
    by_cases hlt : k < d
    · obtain ⟨h1, h2⟩ := HL.out k hlt
      have h1' : k < s.size := h1
      have h2' : ((s[k].toNat : Int) == 46) = false := by
        have : s[k].toNat ≠ 46 := h2
        simp; omega
      clear h2
      go_wp2
      go_round
      case rel => exact ⟨k + 1, by omega, by go_num⟩
      case measure => simp [intOf]; omega
    · obtain rfl : k = d := by omega
      by_cases hz : k < s.size
      · have h2' : ((s[k].toNat : Int) == 46) = true := by
          have : s[k].toNat = 46 := HS.out hz
          simp; omega
        have HE := hide (HY.out hz)
        have HX := hide (fun W => ref5_IsName_any (s.extract 0 k) W)
        have HYY := hide (fun W => ref5_IsName_any (s.extract (k + 1) s.size) W)
        generalize isNameB 24 (bs (s.extract (k + 1) s.size)) = r at *
        generalize isNameB 24 (bs (s.extract 0 k)) = q at *
        cases q
        · go_wp2_with fail
          refine (HX.out _).mono ?_; rintro e w' ⟨rfl, rfl⟩
          go_wp2
          go_ret
          exact ⟨ret_bool (by rw [HE.out]; rfl), rfl⟩
        · go_wp2_with fail
          refine (HX.out _).mono ?_; rintro e w' ⟨rfl, rfl⟩
          go_wp2_with fail
          refine (HYY.out _).mono ?_; rintro e w' ⟨rfl, rfl⟩
          go_wp2
          go_ret
          exact ⟨ret_bool (by rw [HE.out]; rfl), rfl⟩
      · have HE := hide (HNo.out hz)
        go_wp2_with fail
        refine (ref5_IsName_any s _).mono ?_; rintro e w' ⟨rfl, rfl⟩
        go_wp2
        go_ret
        exact ⟨ret_bool (by rw [HE.out]), rfl⟩
end Go.Proofs.YtlfedcbihbigoaaGreatDoor
