/- The plain functions of names and of single tokens, for TokenValidates. Contract: ref5.IsName. Contract: schema.IsName (a range over a string's runes). Contracts: strings.Cut at a dot; schema.IsQualified, ref5.IsQualified. -/
import Derived.Test.YtajcddaahmbllaaDoorSplitS
import Derived.Test.YtajcddaahmbllaaDoorShelf
import Derived.Test.YtajcddaahmbllaaDoorTokB
import Derived.Laws.RangeString
import Derived.Laws.RangeAny
import Derived.Test.YtajcddaahmbllaaDoorGlob
import Derived.IntWalk
import Derived.Deep.QuietTactic
import Derived.BigQuiet
set_option linter.unusedVariables false
set_option linter.unusedSimpArgs false
namespace Go.Proofs.YtajcddaahmbllaaDoor
open Go.RowKit
/-- A name: a letter, then letters, digits and underscores, at most so many. -/
def isNameB (maxName : Nat) (l : Bytes) : Bool := decide (l.length ≤ maxName) && (match l with | [] => false | c :: r => letB c && r.all wordB)
/-- Where the first dot is, or the length. -/
def dotL (l : Bytes) : Nat := (l.takeWhile fun c => c.toNat != 46).length
/-- A name, or two with a dot between them. -/
def isQualB (maxName : Nat) (l : Bytes) : Bool :=
  if dotL l < l.length then isNameB maxName (l.take (dotL l)) && isNameB maxName (l.drop (dotL l + 1)) else isNameB maxName l
theorem dotL_le (l : Bytes) : dotL l ≤ l.length := (List.takeWhile_sublist _).length_le
theorem dotL_lt : ∀ (l : Bytes) (k : Nat) (_ : k < dotL l), ∃ h' : k < l.length, (l[k]'h').toNat ≠ 46
  | [], k, h => by simp [dotL] at h
  | c :: l, k, h => by
    unfold dotL at h
    rw [List.takeWhile_cons] at h
    by_cases hc : (c.toNat != 46) = true
    · rw [if_pos hc] at h
      match k with
      | 0 => exact ⟨by simp, by simpa using hc⟩
      | k + 1 =>
        obtain ⟨h1, h2⟩ := dotL_lt l k (by simpa [dotL] using h)
        exact ⟨by simpa using h1, by simpa using h2⟩
    · rw [if_neg hc] at h; simp at h
theorem dotL_stop : ∀ (l : Bytes) (h : dotL l < l.length), (l[dotL l]'h).toNat = 46
  | [], h => by simp [dotL] at h
  | c :: l, h => by
    by_cases hc : (c.toNat != 46) = true
    · have e : dotL (c :: l) = dotL l + 1 := by unfold dotL; rw [List.takeWhile_cons, if_pos hc]; simp
      have h' : dotL l < l.length := by rw [e] at h; simpa using h
      have := dotL_stop l h'
      simpa [e] using this
    · have e : dotL (c :: l) = 0 := by unfold dotL; rw [List.takeWhile_cons, if_neg hc]; simp
      have hc' : c.toNat = 46 := by simpa using hc
      simpa [e] using hc'
theorem dotL_idx : ∀ l : Bytes, (Lib.indexByte l 46 < 0 → dotL l = l.length) ∧ (¬ Lib.indexByte l 46 < 0 → Lib.indexByte l 46 = dotL l ∧ dotL l < l.length)
  | [] => by simp [Lib.indexByte, dotL]
  | c :: l => by
    obtain ⟨i1, i2⟩ := dotL_idx l
    have hge := Lib.indexByte_ge l 46
    by_cases hc : c.toNat = 46
    · have e : c = 46 := by apply UInt8.toNat_inj.1; rw [hc]; rfl
      subst e
      simp [Lib.indexByte, dotL]
    · have hne : (c == 46) = false := by rw [beq_eq_false_iff_ne]; intro e; subst e; exact hc rfl
      have hn : (c.toNat != 46) = true := by simp [hc]
      have el : dotL (c :: l) = dotL l + 1 := by unfold dotL; rw [List.takeWhile_cons, if_pos hn]; simp
      rw [el]
      unfold Lib.indexByte
      rw [hne]
      simp only [Bool.false_eq_true, if_false]
      by_cases hm : Lib.indexByte l 46 = -1
      · rw [hm]; simp; rw [i1 (by omega)]
      · have hm' : (Lib.indexByte l 46 == -1) = false := by simp [hm]
        rw [hm']; simp
        have := i2 (by omega)
        omega

/-! ### single tokens -/
def symB (x : Bytes) : Bool := symbolsS.contains x
/-- The fields of a token are possible: the kind 0 is an end. -/
def okTok (k : Int) (x : Bytes) (n : Int) : Bool :=
  if k = 0 then x.isEmpty && n == 0
  else if k = 1 then isQualB 24 x && n == 0
  else if k = 2 then x.isEmpty && (decide (0 ≤ n) && decide (n ≤ 1073741824))
  else if k = 3 then decide (x.length ≤ 64) && n == 0
  else if k = 4 then x.isEmpty && (decide (0 ≤ n) && decide (n ≤ 575999999))
  else if k = 5 then symB x && n == 0
  else false
def Tok.ok (t : Tok) : Bool := okTok t.kind t.text t.num
/-- A list that the splitter can return. -/
def valT : List Tok → Bool
  | [] => false
  | [t] => t.ok && (t.kind == 0)
  | t :: u :: ts => (t.ok && (t.kind != 0)) && valT (u :: ts)
theorem valT_iff : ∀ ts : List Tok, valT ts = true ↔ 0 < ts.length ∧ ∀ i (h : i < ts.length), ts[i].ok = true ∧ (ts[i].kind = 0 ↔ i = ts.length - 1)
  | [] => by simp [valT]
  | [t] => by
    simp only [valT, Bool.and_eq_true, beq_iff_eq, List.length_singleton]
    constructor
    · rintro ⟨h1, h2⟩
      exact ⟨by omega, fun i h => by obtain rfl : i = 0 := by omega
                                     exact ⟨h1, by simp [h2]⟩⟩
    · rintro ⟨_, h⟩
      have h0 := h 0 (by omega)
      exact ⟨h0.1, h0.2.2 rfl⟩
  | t :: u :: ts => by
    have ih := valT_iff (u :: ts)
    simp only [valT, Bool.and_eq_true, bne_iff_ne, ih]
    simp only [List.length_cons]
    constructor
    · rintro ⟨⟨h1, h2⟩, _, h3⟩
      refine ⟨by omega, fun i h => ?_⟩
      match i with
      | 0 => exact ⟨h1, by simp; exact h2⟩
      | i + 1 =>
        have := h3 i (by omega)
        refine ⟨this.1, ?_⟩
        have h2 : ((t :: u :: ts)[i + 1].kind = 0 ↔ i = ts.length + 1 - 1) := this.2
        rw [h2]
        omega
    · rintro ⟨_, h⟩
      have h0 := h 0 (by omega)
      refine ⟨⟨h0.1, fun e => ?_⟩, by omega, fun i hi => ?_⟩
      · have := h0.2.1 e; omega
      · have := h (i + 1) (by omega)
        refine ⟨this.1, ?_⟩
        have h2 : ((u :: ts)[i].kind = 0 ↔ i + 1 = ts.length + 1 + 1 - 1) := this.2
        rw [h2]; omega
def valE (ts : List Tok) : Int := if valT ts = true then 0 else 8
end Go.Proofs.YtajcddaahmbllaaDoor

namespace Go.Proofs.YtajcddaahmbllaaDoor
open Go.RowKit
theorem isNameB_long {m : Nat} {s : ByteArray} (h : m < s.size) : isNameB m (bs s) = false := by
  unfold isNameB
  rw [decide_eq_false (by rw [bs_length]; omega)]; rfl
theorem isNameB_nil {m : Nat} {s : ByteArray} (h : s.size = 0) : isNameB m (bs s) = false := by
  have : bs s = [] := List.eq_nil_of_length_eq_zero h
  rw [this]; simp [isNameB]
theorem isNameB_head {m : Nat} {s : ByteArray} (h : 0 < s.size) (hc : letB s[0] = false) : isNameB m (bs s) = false := by
  unfold isNameB
  have e : (bs s)[0]'h = s[0] := rfl
  cases hb : bs s with
  | nil => simp
  | cons c r =>
    have : c = s[0] := by rw [← e]; simp [hb]
    simp [this, hc]
theorem isNameB_bad {m : Nat} {s : ByteArray} {k : Nat} (h : k < s.size) (hc : wordB s[k] = false) : isNameB m (bs s) = false := by
  unfold isNameB
  have e : (bs s)[k]'h = s[k] := rfl
  cases hb : bs s with
  | nil => simp
  | cons c r =>
    have e2 : (c :: r)[k]'(by rw [← hb]; exact h) = s[k] := by rw [← e]; simp [hb]
    have : letB c = false ∨ r.all wordB = false := by
      cases k with
      | zero =>
        left
        have : c = s[0] := e2
        rw [this]; exact (wordB_no hc).1
      | succ k =>
        right
        rw [List.all_eq_false]
        exact ⟨s[k+1], by rw [← e2]; simp, by simp [hc]⟩
    rcases this with h | h <;> simp [h]
theorem isNameB_good {m : Nat} {s : ByteArray} (h0 : 0 < s.size) (h1 : s.size ≤ m) (hc : letB s[0] = true) (ha : ∀ k (hk : k < s.size), wordB s[k] = true) : isNameB m (bs s) = true := by
  unfold isNameB
  rw [decide_eq_true (by rw [bs_length]; omega)]
  have e : (bs s)[0]'h0 = s[0] := rfl
  cases hb : bs s with
  | nil => have : (bs s).length = 0 := by rw [hb]; rfl
           rw [bs_length] at this; omega
  | cons c r =>
    have e1 : c = s[0] := by rw [← e]; simp [hb]
    have : r.all wordB = true := by
      rw [List.all_eq_true]
      intro x hx
      obtain ⟨i, hi, rfl⟩ := List.mem_iff_getElem.1 hx
      have hk : i + 1 < s.size := by rw [← bs_length, hb]; simp; omega
      have e3 : (bs s)[i+1]'hk = s[i+1] := rfl
      have : r[i] = s[i+1] := by rw [← e3]; simp [hb]
      rw [this]; exact ha _ hk
    simp [e1, hc, this]
theorem letB_split {c : UInt8} (h : letB c = true) : 97 ≤ c.toNat ∧ c.toNat ≤ 122 := by
  unfold letB at h; simpa using h
end Go.Proofs.YtajcddaahmbllaaDoor

namespace Go.Proofs.YtajcddaahmbllaaDoor
open Go.RowKit
def NameRel (s : ByteArray) (pos : Nat) : Prop := (∀ (h : 0 < s.size), 0 < pos → letB s[0] = true) ∧ ∀ j (hj : j < s.size), j < pos → wordB s[j] = true
theorem NameRel_start (s : ByteArray) : NameRel s 0 := ⟨fun _ h => absurd h (Nat.not_lt_zero _), fun _ _ h => absurd h (Nat.not_lt_zero _)⟩
theorem letB_mk {c : UInt8} (h : 97 ≤ c.toNat ∧ c.toNat ≤ 122) : letB c = true := by unfold letB; simp; exact h
theorem letB_not {c : UInt8} (h : ¬ (97 ≤ c.toNat ∧ c.toNat ≤ 122)) : letB c = false := by
  cases hc : letB c
  · rfl
  · exact absurd (letB_split hc) h
theorem wordB_mk {c : UInt8} (h : letB c = true ∨ c.toNat = 95 ∨ (48 ≤ c.toNat ∧ c.toNat ≤ 57)) : wordB c = true := by
  unfold wordB
  rcases h with h | h | h
  · rw [h]; rfl
  · simp [h]
  · unfold digB; simp [h.1, h.2]
theorem wordB_not {c : UInt8} (h : letB c = false) (h2 : ¬ c.toNat = 95) (h3 : ¬ (48 ≤ c.toNat ∧ c.toNat ≤ 57)) : wordB c = false := by
  unfold wordB digB
  rw [h]
  simp
  exact ⟨by omega, h2⟩
theorem NameRel_step {s : ByteArray} {pos : Nat} (h : NameRel s pos) (hp : pos < s.size) (hw : wordB s[pos] = true) (h0 : pos = 0 → letB s[pos] = true) : NameRel s (pos + 1) := by
  refine ⟨fun h1 _ => ?_, fun j hj h1 => ?_⟩
  · by_cases e : pos = 0
    · subst e; exact h0 rfl
    · exact h.1 h1 (by omega)
  · by_cases e : j = pos
    · subst e; exact hw
    · exact h.2 j hj (by omega)
theorem NameRel_end {s : ByteArray} (h : NameRel s s.size) (h1 : ¬ 24 < s.size) : isNameB 24 (bs s) = !s.toList.isEmpty := by
  by_cases h0 : s.size = 0
  · rw [isNameB_nil h0]
    have : s.toList = [] := by rw [ByteArray.toList_eq]; exact List.eq_nil_of_length_eq_zero h0
    rw [this]; rfl
  · rw [isNameB_good (by omega) (by omega) (h.1 (by omega) (by omega)) fun k hk => h.2 k hk hk]
    have : s.toList ≠ [] := by
      rw [ByteArray.toList_eq]; intro e
      have : s.data.toList.length = 0 := by rw [e]; rfl
      exact h0 this
    cases hs : s.toList with
    | nil => exact absurd hs this
    | cons => rfl
theorem iter_below (w : World) (s : ByteArray) (pos : Nat) : Below w.heap.size w (w.iter s pos) := (Below.refl _ _).alloc (Nat.le_refl _) _
end Go.Proofs.YtajcddaahmbllaaDoor

namespace Go.Proofs.YtajcddaahmbllaaDoor
open Go.RowKit
theorem slIndex_dot (s : ByteArray) (w : World) : Calls Tryd.prog 86 #[.string s, .string ⟨#[46]⟩] w fun e w' => e = .returned (.int .i64 (Lib.indexByte (bs s) 46)) ∧ w = w' :=
  (Tryd.stringslite_Index_one s 46 w).mono fun _ _ ⟨h1, h2⟩ => ⟨h1, h2.symm⟩
theorem isQualB_yes {s : ByteArray} (h : dotL (bs s) < s.size) : isQualB 24 (bs s) = (isNameB 24 (bs (s.extract 0 (dotL (bs s)))) && isNameB 24 (bs (s.extract (dotL (bs s) + 1) s.size))) := by
  unfold isQualB
  rw [if_pos (by rw [bs_length]; exact h), bs_from, bs_extract]; rfl
theorem isQualB_no {s : ByteArray} (h : ¬ dotL (bs s) < s.size) : isQualB 24 (bs s) = isNameB 24 (bs s) := by
  unfold isQualB
  rw [if_neg (by rw [bs_length]; exact h)]
end Go.Proofs.YtajcddaahmbllaaDoor
