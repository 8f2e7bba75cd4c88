/- The plain functions of names and of single tokens, for TokenValidates. -/
import Derived.Test.YtedjahbieheeoaaDoorSplitS
import Derived.Test.YtedjahbieheeoaaDoorShelf
import Derived.Test.YtedjahbieheeoaaDoorTokB
set_option linter.unusedVariables false
set_option linter.unusedSimpArgs false
namespace Go.Proofs.YtedjahbieheeoaaDoor
open Go.RowKit
/-- A name: a letter, then letters, digits and underscores, at most so many. -/
def isNameB (maxName : Nat) (l : Bytes) : Bool := decide (l.length ≤ maxName) && (match l with | [] => false | c :: r => letB c && r.all wordB)
/-- Where the first dot is, or the length. -/
def dotL (l : Bytes) : Nat := (l.takeWhile fun c => c.toNat != 46).length
/-- A name, or two with a dot between them. -/
def isQualB (maxName : Nat) (l : Bytes) : Bool :=
  if dotL l < l.length then isNameB maxName (l.take (dotL l)) && isNameB maxName (l.drop (dotL l + 1)) else isNameB maxName l
theorem dotL_le (l : Bytes) : dotL l ≤ l.length := (List.takeWhile_sublist _).length_le
theorem dotL_lt : ∀ (l : Bytes) (k : Nat) (_ : k < dotL l), ∃ h' : k < l.length, (l[k]'h').toNat ≠ 46
  | [], k, h => by simp [dotL] at h
  | c :: l, k, h => by
    unfold dotL at h
    rw [List.takeWhile_cons] at h
    by_cases hc : (c.toNat != 46) = true
    · rw [if_pos hc] at h
      match k with
      | 0 => exact ⟨by simp, by simpa using hc⟩
      | k + 1 =>
        obtain ⟨h1, h2⟩ := dotL_lt l k (by simpa [dotL] using h)
        exact ⟨by simpa using h1, by simpa using h2⟩
    · rw [if_neg hc] at h; simp at h
theorem dotL_stop : ∀ (l : Bytes) (h : dotL l < l.length), (l[dotL l]'h).toNat = 46
  | [], h => by simp [dotL] at h
  | c :: l, h => by
    by_cases hc : (c.toNat != 46) = true
    · have e : dotL (c :: l) = dotL l + 1 := by unfold dotL; rw [List.takeWhile_cons, if_pos hc]; simp
      have h' : dotL l < l.length := by rw [e] at h; simpa using h
      have := dotL_stop l h'
      simpa [e] using this
    · have e : dotL (c :: l) = 0 := by unfold dotL; rw [List.takeWhile_cons, if_neg hc]; simp
      have hc' : c.toNat = 46 := by simpa using hc
      simpa [e] using hc'
theorem dotL_idx : ∀ l : Bytes, (Lib.indexByte l 46 < 0 → dotL l = l.length) ∧ (¬ Lib.indexByte l 46 < 0 → Lib.indexByte l 46 = dotL l ∧ dotL l < l.length)
  | [] => by simp [Lib.indexByte, dotL]
  | c :: l => by
    obtain ⟨i1, i2⟩ := dotL_idx l
    have hge := Lib.indexByte_ge l 46
    by_cases hc : c.toNat = 46
    · have e : c = 46 := by apply UInt8.toNat_inj.1; rw [hc]; rfl
      subst e
      simp [Lib.indexByte, dotL]
    · have hne : (c == 46) = false := by rw [beq_eq_false_iff_ne]; intro e; subst e; exact hc rfl
      have hn : (c.toNat != 46) = true := by simp [hc]
      have el : dotL (c :: l) = dotL l + 1 := by unfold dotL; rw [List.takeWhile_cons, if_pos hn]; simp
      rw [el]
      unfold Lib.indexByte
      rw [hne]
      simp only [Bool.false_eq_true, if_false]
      by_cases hm : Lib.indexByte l 46 = -1
      · rw [hm]; simp; rw [i1 (by omega)]
      · have hm' : (Lib.indexByte l 46 == -1) = false := by simp [hm]
        rw [hm']; simp
        have := i2 (by omega)
        omega

/-! ### single tokens -/
def symB (x : Bytes) : Bool := symbolsS.contains x
/-- The fields of a token are possible: the kind 0 is an end. -/
def okTok (k : Int) (x : Bytes) (n : Int) : Bool :=
  if k = 0 then x.isEmpty && n == 0
  else if k = 1 then isQualB 24 x && n == 0
  else if k = 2 then x.isEmpty && (decide (0 ≤ n) && decide (n ≤ 1073741824))
  else if k = 3 then decide (x.length ≤ 64) && n == 0
  else if k = 4 then x.isEmpty && (decide (0 ≤ n) && decide (n ≤ 575999999))
  else if k = 5 then symB x && n == 0
  else false
def Tok.ok (t : Tok) : Bool := okTok t.kind t.text t.num
/-- A list that the splitter can return. -/
def valT : List Tok → Bool
  | [] => false
  | [t] => t.ok && (t.kind == 0)
  | t :: u :: ts => (t.ok && (t.kind != 0)) && valT (u :: ts)
theorem valT_iff : ∀ ts : List Tok, valT ts = true ↔ 0 < ts.length ∧ ∀ i (h : i < ts.length), ts[i].ok = true ∧ (ts[i].kind = 0 ↔ i = ts.length - 1)
  | [] => by simp [valT]
  | [t] => by
    simp only [valT, Bool.and_eq_true, beq_iff_eq, List.length_singleton]
    constructor
    · rintro ⟨h1, h2⟩
      exact ⟨by omega, fun i h => by obtain rfl : i = 0 := by omega
                                     exact ⟨h1, by simp [h2]⟩⟩
    · rintro ⟨_, h⟩
      have h0 := h 0 (by omega)
      exact ⟨h0.1, h0.2.2 rfl⟩
  | t :: u :: ts => by
    have ih := valT_iff (u :: ts)
    simp only [valT, Bool.and_eq_true, bne_iff_ne, ih]
    simp only [List.length_cons]
    constructor
    · rintro ⟨⟨h1, h2⟩, _, h3⟩
      refine ⟨by omega, fun i h => ?_⟩
      match i with
      | 0 => exact ⟨h1, by simp; exact h2⟩
      | i + 1 =>
        have := h3 i (by omega)
        refine ⟨this.1, ?_⟩
        have h2 : ((t :: u :: ts)[i + 1].kind = 0 ↔ i = ts.length + 1 - 1) := this.2
        rw [h2]
        omega
    · rintro ⟨_, h⟩
      have h0 := h 0 (by omega)
      refine ⟨⟨h0.1, fun e => ?_⟩, by omega, fun i hi => ?_⟩
      · have := h0.2.1 e; omega
      · have := h (i + 1) (by omega)
        refine ⟨this.1, ?_⟩
        have h2 : ((u :: ts)[i].kind = 0 ↔ i + 1 = ts.length + 1 + 1 - 1) := this.2
        rw [h2]; omega
def valE (ts : List Tok) : Int := if valT ts = true then 0 else 8
end Go.Proofs.YtedjahbieheeoaaDoor
