/- Plain facts on the splitter: it never needs more steps than bytes; what one round does. No program in sight. -/
import Derived.Test.YtlfedcbihbigoaaGreatDoorBase0
import Derived.Lib.Bytealg
set_option linter.unusedVariables false
set_option linter.unusedSimpArgs false
namespace Go.Proofs.YtlfedcbihbigoaaGreatDoor
open Go.RowKit

theorem partL_pos {c : UInt8} {r : Bytes} (h : letB c = true) : 1 ≤ partL (c :: r) := by
  unfold partL; rw [List.takeWhile_cons, if_pos (by unfold wordB; rw [h]; rfl)]; simp
theorem nameS_len {c : UInt8} {r : Bytes} {t : Tok} {n : Nat} (hc : letB c = true) (h : nameS (c :: r) = .ok (t, n)) : 1 ≤ n ∧ n ≤ (c :: r).length := by
  have h1 := partL_pos (r := r) hc
  have h2 := partL_le (c :: r)
  have h3 := partL_le ((c :: r).drop (partL (c :: r) + 1))
  unfold nameS at h
  split at h
  · cases h
  · split at h
    · rename_i hd
      have hd' : partL (c :: r) + 1 < (c :: r).length := by
        unfold dotB at hd
        by_cases h : partL (c :: r) + 1 < (c :: r).length
        · exact h
        · rw [dif_neg h] at hd; cases hd
      rw [List.length_drop] at h3
      split at h
      · cases h
      · injection h with h; injection h with _ h; omega
    · injection h with h; injection h with _ h; omega
/-- The first byte is a zero, and more digits follow. -/
def zeroC (l : Bytes) : Bool := match l with | c :: _ => (c.toNat == 48) && decide (1 < digL l) | [] => false
theorem intS_eqC (l : Bytes) : intS l = if zeroC l || tailB l (digL l) then .error 3 else if 1073741824 < valS (l.take (digL l)) then .error 1 else .ok (⟨2, [], valS (l.take (digL l)), 0⟩, digL l) := rfl
theorem intS_len {c : UInt8} {r : Bytes} {t : Tok} {n : Nat} (hc : digB c = true) (h : intS (c :: r) = .ok (t, n)) : 1 ≤ n ∧ n ≤ (c :: r).length := by
  have h1 : 1 ≤ digL (c :: r) := by unfold digL; rw [List.takeWhile_cons, if_pos hc]; simp
  have h2 : digL (c :: r) ≤ (c :: r).length := (List.takeWhile_sublist _).length_le
  rw [intS_eqC] at h
  split at h
  · cases h
  · split at h
    · cases h
    · injection h with h; injection h with _ h; omega
theorem litGo_len : ∀ (f : Nat) (l t : Bytes) (n : Nat), l.length ≤ f → litGo l = some (t, n) → n ≤ l.length
  | 0, l, t, n, hf, h => by
    have : l = [] := List.eq_nil_of_length_eq_zero (by omega)
    subst this; simp [litGo] at h
  | f + 1, [], t, n, _, h => by simp [litGo] at h
  | f + 1, [c], t, n, _, h => by
    unfold litGo at h
    split at h
    · injection h with h; injection h with _ h; simp; omega
    · cases h
  | f + 1, c :: d :: r, t, n, hf, h => by
    unfold litGo at h
    simp only [List.length_cons] at hf ⊢
    split at h
    · split at h
      · cases hr : litGo r with
        | none => rw [hr] at h; cases h
        | some x =>
          rw [hr] at h
          injection h with h; injection h with _ h
          have := litGo_len f r x.1 x.2 (by omega) hr
          omega
      · injection h with h; injection h with _ h; omega
    · cases hr : litGo (d :: r) with
      | none => rw [hr] at h; cases h
      | some x =>
        rw [hr] at h
        injection h with h; injection h with _ h
        have := litGo_len f (d :: r) x.1 x.2 (by simp; omega) hr
        simp only [List.length_cons] at this
        omega
theorem litS_len {c : UInt8} {r : Bytes} {t : Tok} {n : Nat} (h : litS (c :: r) = .ok (t, n)) : 1 ≤ n ∧ n ≤ (c :: r).length := by
  unfold litS at h
  split at h
  · cases h
  · rename_i t' n' hg
    split at h
    · cases h
    · injection h with h; injection h with _ h
      have := litGo_len _ _ _ _ (Nat.le_refl _) hg
      simp at this ⊢; omega
theorem symS_len {l : Bytes} {t : Tok} {n : Nat} (h : symS l = .ok (t, n)) : 1 ≤ n ∧ n ≤ l.length := by
  unfold symS at h
  split at h
  · rename_i x hx
    injection h with h; injection h with _ h
    have h1 := List.find?_some hx
    have h2 := List.mem_of_find?_eq_some hx
    have h3 : x.length ≤ l.length := (List.isPrefixOf_iff_prefix.1 h1).length_le
    have h4 : ∀ y ∈ symbolsS, 1 ≤ y.length := by decide
    have := h4 x h2
    omega
  · cases h
theorem oneS_len {l : Bytes} {t : Tok} {n : Nat} (h : oneS l = .ok (t, n)) : 1 ≤ n ∧ n ≤ l.length := by
  unfold oneS at h
  split at h
  · cases h
  · rename_i c r
    split at h
    · rename_i hc; exact nameS_len hc h
    · split at h
      · rename_i hc; exact intS_len hc h
      · split at h
        · exact litS_len h
        · split at h
          · unfold atS at h
            split at h
            · cases h
            · split at h
              · cases h
              · injection h with h; injection h with _ h; omega
          · exact symS_len h

theorem lineL_le (l : Bytes) : lineL l ≤ l.length := (List.takeWhile_sublist _).length_le
theorem lineL_pos {c : UInt8} {r : Bytes} (h : c.toNat = 35) : 1 ≤ lineL (c :: r) := by
  unfold lineL; rw [List.takeWhile_cons, if_pos (by rw [h]; decide)]; simp

/-- More steps than bytes change nothing. -/
theorem splitGo_fuel : ∀ (f : Nat) (l : Bytes) (i : Nat), l.length ≤ f → splitGo f l i = splitGo l.length l i
  | 0, l, i, h => by
    have : l = [] := List.eq_nil_of_length_eq_zero (by omega)
    subst this; rfl
  | f + 1, [], i, _ => rfl
  | f + 1, c :: r, i, h => by
    simp only [List.length_cons] at h
    have h' : r.length ≤ f := by omega
    show splitGo (f + 1) (c :: r) i = splitGo (r.length + 1) (c :: r) i
    unfold splitGo
    by_cases h1 : blankB c = true
    · simp only [h1, if_true]; rw [splitGo_fuel f r _ h']
    · simp only [h1, Bool.false_eq_true, if_false]
      by_cases h2 : c.toNat = 35
      · simp only [h2, if_true]
        have hp := lineL_pos (r := r) h2
        have hl : ((c :: r).drop (lineL (c :: r))).length ≤ r.length := by rw [List.length_drop]; simp; omega
        rw [splitGo_fuel f _ _ (by omega), splitGo_fuel r.length _ _ hl]
      · simp only [h2, if_false]
        cases ho : oneS (c :: r) with
        | error e => rfl
        | ok x =>
          obtain ⟨n1, n2⟩ := oneS_len (t := x.1) (n := x.2) ho
          have hl : ((c :: r).drop x.2).length ≤ r.length := by rw [List.length_drop]; simp; omega
          simp only
          rw [splitGo_fuel f _ _ (by omega), splitGo_fuel r.length _ _ hl]
termination_by f _ _ _ => f

/-- What has been read up to byte i, and what is still to come. -/
def SplitRel (l : Bytes) (i : Nat) (acc : List Tok) : Prop :=
  splitGo l.length l 0 = (match splitGo (l.length - i) (l.drop i) i with | .error e => .error e | .ok ts => .ok (acc ++ ts)) ∧ i ≤ l.length ∧ acc.length ≤ i
theorem SplitRel_start (l : Bytes) : SplitRel l 0 [] := by
  refine ⟨?_, by omega, by simp⟩
  simp only [Nat.sub_zero, List.drop_zero, List.nil_append]
  cases splitGo l.length l 0 <;> rfl
theorem splitGo_cons (f : Nat) (c : UInt8) (r : Bytes) (i : Nat) : splitGo (f + 1) (c :: r) i =
    if blankB c = true then splitGo f r (i + 1)
    else if c.toNat = 35 then splitGo f ((c :: r).drop (lineL (c :: r))) (i + lineL (c :: r))
    else match oneS (c :: r) with
      | .error e => .error (i, e)
      | .ok (t, n) => match splitGo f ((c :: r).drop n) (i + n) with
        | .error e => .error e
        | .ok ts => .ok ({ t with off := i } :: ts) := rfl
theorem splitGo_at {s : ByteArray} {i : Nat} (hi : i < s.size) : splitGo ((bs s).length - i) ((bs s).drop i) i =
    if blankB s[i] = true then splitGo ((bs s).length - (i + 1)) ((bs s).drop (i + 1)) (i + 1)
    else if s[i].toNat = 35 then splitGo ((bs s).length - (i + lineL ((bs s).drop i))) ((bs s).drop (i + lineL ((bs s).drop i))) (i + lineL ((bs s).drop i))
    else match oneS ((bs s).drop i) with
      | .error e => .error (i, e)
      | .ok (t, n) => match splitGo ((bs s).length - (i + n)) ((bs s).drop (i + n)) (i + n) with
        | .error e => .error e
        | .ok ts => .ok ({ t with off := i } :: ts) := by
  have hl : (bs s).length = s.size := rfl
  have hd := drop_cons s i hi
  have hlen : ((bs s).drop (i + 1)).length = s.size - (i + 1) := by rw [List.length_drop, hl]
  obtain ⟨f, hf⟩ : ∃ f, (bs s).length - i = f + 1 := ⟨(bs s).length - (i + 1), by omega⟩
  have hf' : f = (bs s).length - (i + 1) := by omega
  have hlenI : ((bs s).drop i).length = s.size - i := by rw [List.length_drop, hl]
  rw [hf]
  rw [show splitGo (f + 1) ((bs s).drop i) i = splitGo (f + 1) (s[i] :: (bs s).drop (i + 1)) i from by rw [← hd], splitGo_cons, ← hd]
  by_cases h1 : blankB s[i] = true
  · rw [if_pos h1, if_pos h1, hf']
  · rw [if_neg h1, if_neg h1]
    by_cases h2 : s[i].toNat = 35
    · rw [if_pos h2, if_pos h2]
      have hp := lineL_pos (r := (bs s).drop (i + 1)) h2
      rw [← hd] at hp
      have hle := lineL_le ((bs s).drop i)
      rw [List.drop_drop, splitGo_fuel f _ _ (by rw [List.length_drop]; omega), List.length_drop]
    · rw [if_neg h2, if_neg h2]
      cases ho : oneS ((bs s).drop i) with
      | error e => rfl
      | ok x =>
        obtain ⟨n1, n2⟩ := oneS_len (t := x.1) (n := x.2) ho
        simp only
        rw [List.drop_drop, splitGo_fuel f _ _ (by rw [List.length_drop]; omega), List.length_drop]
theorem SplitRel_blank {s : ByteArray} {i : Nat} {acc : List Tok} (h : SplitRel (bs s) i acc) (hi : i < s.size) (hb : blankB s[i] = true) : SplitRel (bs s) (i + 1) acc := by
  obtain ⟨h1, h2, h3⟩ := h
  rw [splitGo_at hi, if_pos hb] at h1
  exact ⟨h1, hi, by omega⟩
theorem SplitRel_line {s : ByteArray} {i : Nat} {acc : List Tok} (h : SplitRel (bs s) i acc) (hi : i < s.size) (hb : blankB s[i] = false) (hc : s[i].toNat = 35) : SplitRel (bs s) (i + lineL ((bs s).drop i)) acc ∧ 1 ≤ lineL ((bs s).drop i) ∧ i + lineL ((bs s).drop i) ≤ s.size := by
  obtain ⟨h1, h2, h3⟩ := h
  have hp := lineL_pos (r := (bs s).drop (i + 1)) hc
  rw [← drop_cons s i hi] at hp
  have hle := lineL_le ((bs s).drop i)
  rw [List.length_drop, bs_length] at hle
  rw [splitGo_at hi, if_neg (by rw [hb]; decide), if_pos hc] at h1
  exact ⟨⟨h1, by rw [bs_length]; omega, by omega⟩, hp, by omega⟩
theorem SplitRel_tok {s : ByteArray} {i n : Nat} {acc : List Tok} {t : Tok} (h : SplitRel (bs s) i acc) (hi : i < s.size) (hb : blankB s[i] = false) (hc : s[i].toNat ≠ 35) (ho : oneS ((bs s).drop i) = .ok (t, n)) :
    SplitRel (bs s) (i + n) (acc ++ [{ t with off := i }]) ∧ 1 ≤ n ∧ i + n ≤ s.size := by
  obtain ⟨h1, h2, h3⟩ := h
  obtain ⟨n1, n2⟩ := oneS_len ho
  rw [List.length_drop, bs_length] at n2
  rw [splitGo_at hi, if_neg (by rw [hb]; decide), if_neg hc, ho] at h1
  refine ⟨⟨?_, by rw [bs_length]; omega, by simp; omega⟩, n1, by omega⟩
  rw [h1]
  simp only
  cases splitGo ((bs s).length - (i + n)) ((bs s).drop (i + n)) (i + n) with
  | error e => rfl
  | ok ts => simp
theorem SplitRel_err {s : ByteArray} {i : Nat} {acc : List Tok} {e : Int} (h : SplitRel (bs s) i acc) (hi : i < s.size) (hb : blankB s[i] = false) (hc : s[i].toNat ≠ 35) (ho : oneS ((bs s).drop i) = .error e) :
    splitGo (bs s).length (bs s) 0 = .error (i, e) := by
  obtain ⟨h1, h2, h3⟩ := h
  rw [splitGo_at hi, if_neg (by rw [hb]; decide), if_neg hc, ho] at h1
  exact h1
theorem SplitRel_end {s : ByteArray} {acc : List Tok} (h : SplitRel (bs s) s.size acc) : splitGo (bs s).length (bs s) 0 = .ok (acc ++ [⟨0, [], 0, s.size⟩]) := by
  obtain ⟨h1, h2, h3⟩ := h
  have e : (bs s).drop s.size = [] := List.drop_eq_nil_of_le (by rw [bs_length]; exact Nat.le_refl _)
  rw [bs_length, Nat.sub_self, e] at h1
  exact h1
/-- The comment's end: where the line feed is, or the text's end. -/
theorem lineL_idx : ∀ l : Bytes, (Lib.indexByte l 10 < 0 → lineL l = l.length) ∧ (¬ Lib.indexByte l 10 < 0 → Lib.indexByte l 10 = lineL l)
  | [] => by simp [Lib.indexByte, lineL]
  | c :: l => by
    obtain ⟨i1, i2⟩ := lineL_idx l
    have hge := Lib.indexByte_ge l 10
    by_cases hc : c.toNat = 10
    · have e : c = 10 := by apply UInt8.toNat_inj.1; rw [hc]; rfl
      subst e
      simp [Lib.indexByte, lineL]
    · have hne : (c == 10) = false := by rw [beq_eq_false_iff_ne]; intro e; subst e; exact hc rfl
      have hn : (c.toNat != 10) = true := by simp [hc]
      have el : lineL (c :: l) = lineL l + 1 := by unfold lineL; rw [List.takeWhile_cons, if_pos hn]; simp
      rw [el]
      unfold Lib.indexByte
      rw [hne]
      simp only [Bool.false_eq_true, if_false]
      by_cases hm : Lib.indexByte l 10 = -1
      · rw [hm]; simp; rw [i1 (by omega)]
      · have hm' : (Lib.indexByte l 10 == -1) = false := by simp [hm]
        rw [hm']; simp
        have := i2 (by omega)
        omega

end Go.Proofs.YtlfedcbihbigoaaGreatDoor
