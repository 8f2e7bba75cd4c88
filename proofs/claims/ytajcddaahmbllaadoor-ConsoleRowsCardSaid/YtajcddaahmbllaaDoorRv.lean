/- Plain: what the splitter returns is well-formed. No program in sight. -/
import Derived.Test.YtajcddaahmbllaaDoorRt
set_option linter.unusedVariables false
set_option linter.unusedSimpArgs false
namespace Go.Proofs.YtajcddaahmbllaaDoor
open Go.RowKit
def Fine (t : Tok) : Prop := t.ok = true ∧ t.kind ≠ 0
theorem isNameB_take {l : Bytes} {n : Nat} (hn : n ≤ partL l) (h1 : 1 ≤ n) (h2 : n ≤ 24) (hh : ∃ c r, l = c :: r ∧ letB c = true) : isNameB 24 (l.take n) = true := by
  refine isNameB_iff.2 ⟨by rw [List.length_take]; omega, ?_, fun x hx => ?_⟩
  · obtain ⟨c, r, rfl, hc⟩ := hh
    obtain ⟨m, rfl⟩ : ∃ m, n = m + 1 := ⟨n - 1, by omega⟩
    exact ⟨c, r.take m, rfl, hc⟩
  · obtain ⟨i, hi, rfl⟩ := List.mem_iff_getElem.1 hx
    rw [List.length_take] at hi
    obtain ⟨h3, h4⟩ := partL_lt l i (by omega)
    rw [List.getElem_take]; exact h4
theorem nameS_fine {c : UInt8} {r : Bytes} {t : Tok} {n : Nat} (hc : letB c = true) (h : nameS (c :: r) = .ok (t, n)) : Fine t := by
  have hp := partL_pos (r := r) hc
  have hl := partL_le (c :: r)
  unfold nameS at h
  generalize hlst : c :: r = l at *
  have hh : ∃ c r, l = c :: r ∧ letB c = true := ⟨c, r, hlst.symm, hc⟩
  split at h
  · cases h
  rename_i h24
  split at h
  · rename_i hd
    split at h
    · cases h
    rename_i hk
    injection h with h
    injection h with h3 h4
    subst h3
    refine ⟨?_, by simp⟩
    show okTok 1 _ 0 = true
    rw [okTok_1, show ((0 : Int) == 0) = true from rfl, Bool.and_true]
    unfold dotB at hd
    split at hd
    · rename_i hlt
      simp only [Bool.and_eq_true, beq_iff_eq] at hd
      have e46 : l[partL l] = 46 := UInt8.toNat_inj.1 (by rw [hd.1]; rfl)
      have hdr : l.drop (partL l) = 46 :: l.drop (partL l + 1) := by rw [List.drop_eq_getElem_cons (by omega), e46]
      have e : l.take (partL l + (1 + partL (l.drop (partL l + 1)))) = l.take (partL l) ++ 46 :: (l.drop (partL l + 1)).take (partL (l.drop (partL l + 1))) := by
        rw [List.take_add, hdr, Nat.add_comm 1, List.take_succ_cons]
      rw [e]
      have hhead : ∃ c r, l.drop (partL l + 1) = c :: r ∧ letB c = true := ⟨l[partL l + 1], l.drop (partL l + 1 + 1), List.drop_eq_getElem_cons hlt, hd.2⟩
      refine isQualB_two (isNameB_take (Nat.le_refl _) hp (by omega) hh) (isNameB_take (Nat.le_refl _) ?_ (by omega) hhead)
      obtain ⟨c2, r2, e2, hc2⟩ := hhead
      rw [e2]; exact partL_pos hc2
    · cases hd
  · injection h with h
    injection h with h3 h4
    subst h3
    refine ⟨?_, by simp⟩
    show okTok 1 _ 0 = true
    rw [okTok_1, show ((0 : Int) == 0) = true from rfl, Bool.and_true]
    exact isQualB_name (isNameB_take (Nat.le_refl _) hp (by omega) hh)
theorem intS_fine {l : Bytes} {t : Tok} {n : Nat} (h : intS l = .ok (t, n)) : Fine t := by
  rw [intS_eq] at h
  split at h
  · cases h
  split at h
  · cases h
  rename_i hv
  injection h with h
  injection h with h3 h4
  subst h3
  have hb := valS_bd ⟨l.toArray⟩ (digL l) (Nat.le_refl _)
  rw [bs_mk] at hb
  refine ⟨?_, by simp⟩
  show okTok 2 [] (valS (l.take (digL l))) = true
  rw [okTok_2]
  simp; omega
theorem litS_fine {l : Bytes} {t : Tok} {n : Nat} (h : litS l = .ok (t, n)) : Fine t := by
  unfold litS at h
  split at h
  · cases h
  · split at h
    · cases h
    · rename_i hl
      injection h with h
      injection h with h3 h4
      subst h3
      refine ⟨?_, by simp⟩
      show okTok 3 _ 0 = true
      rw [okTok_3]
      simp; omega
theorem timeS_fine {l : Bytes} {m : Int} (h : timeS l = .ok m) : 0 ≤ m ∧ m ≤ 575999999 := by
  have hm : bs ⟨l.toArray⟩ = l := rfl
  have he := timeS_eq ⟨l.toArray⟩
  rw [hm] at he
  unfold timeS at h
  split at h
  · cases h
  rename_i hf
  have hf' : fitB timeForm (bs ⟨l.toArray⟩) = true := by rw [hm]; simpa using hf
  obtain ⟨p1, p2, p3, p4, p5⟩ := pieces hf'
  rw [bs_extract, hm] at p4 p5
  split at h
  · cases h
  rename_i n hn
  have hd := dayN_bd hn
  split at h
  · cases h
  rename_i hr
  injection h with h
  have q4 := numS_bd2 _ p4 (by simp; omega)
  have q5 := numS_bd2 _ p5 (by simp; omega)
  omega
theorem atS_fine {l : Bytes} {t : Tok} {n : Nat} (h : atS l = .ok (t, n)) : Fine t := by
  unfold atS at h
  split at h
  · cases h
  split at h
  · cases h
  · rename_i m hm
    injection h with h
    injection h with h3 h4
    subst h3
    obtain ⟨h0, h1⟩ := timeS_fine hm
    refine ⟨?_, by simp⟩
    show okTok 4 [] m = true
    rw [okTok_4]
    simp; omega
theorem symS_fine {l : Bytes} {t : Tok} {n : Nat} (h : symS l = .ok (t, n)) : Fine t := by
  unfold symS at h
  split at h
  · rename_i x hx
    injection h with h
    injection h with h3 h4
    subst h3
    refine ⟨?_, by simp⟩
    show okTok 5 x 0 = true
    rw [okTok_5]
    have : symB x = true := by unfold symB; rw [List.contains_iff_mem]; exact List.mem_of_find?_eq_some hx
    rw [this]; rfl
  · cases h
theorem oneS_fine {c : UInt8} {r : Bytes} {t : Tok} {n : Nat} (h : oneS (c :: r) = .ok (t, n)) : Fine t := by
  rw [oneS_cons] at h
  split at h
  · rename_i hc; exact nameS_fine hc h
  split at h
  · exact intS_fine h
  split at h
  · exact litS_fine h
  split at h
  · exact atS_fine h
  · exact symS_fine h
theorem splitGo_fine : ∀ (f : Nat) (l : Bytes) (i : Nat) (ts : List Tok), splitGo f l i = .ok ts → valT ts = true
  | 0, l, i, ts, h => by injection h with h; subst h; rfl
  | f + 1, [], i, ts, h => by injection h with h; subst h; rfl
  | f + 1, c :: r, i, ts, h => by
    rw [splitGo_cons] at h
    split at h
    · exact splitGo_fine f _ _ _ h
    · split at h
      · exact splitGo_fine f _ _ _ h
      · split at h
        · cases h
        · rename_i t n ho
          split at h
          · cases h
          · rename_i ts' hg
            injection h with h
            subst h
            have ih := splitGo_fine f _ _ _ hg
            obtain ⟨h1, h2⟩ := oneS_fine ho
            cases ts' with
            | nil => cases ih
            | cons u us =>
              have h1' : ({ t with off := i } : Tok).ok = true := h1
              simp [valT, h1', h2, ih]
theorem splitS_fine {l : Bytes} {ts : List Tok} (h : splitS l = .ok ts) : valT ts = true := by
  unfold splitS at h
  split at h
  · cases h
  · exact splitGo_fine _ _ _ _ h
theorem splitS_len {l : Bytes} {ts : List Tok} (h : splitS l = .ok ts) : ts.length ≤ l.length + 1 := by
  unfold splitS at h
  split at h
  · cases h
  · exact splitGo_count _ _ _ _ h
theorem joinS_short {ts : List Tok} {m : Nat} (h : valT ts = true) (hm : ts.length ≤ m + 1) : (joinS ts).length ≤ 131 * m := by
  unfold joinS
  have := inter_len (ts.dropLast.map Tok.written) (fun x hx => by
    rw [List.mem_map] at hx
    obtain ⟨t, ht, rfl⟩ := hx
    obtain ⟨i, hi, rfl⟩ := List.mem_iff_getElem.1 (List.dropLast_subset _ ht)
    exact written_len (((valT_iff ts).1 h).2 i hi).1)
  rw [List.length_map, List.length_dropLast] at this
  have h3 : 131 * (ts.length - 1) ≤ 131 * m := Nat.mul_le_mul_left _ (by omega)
  omega
theorem joinR_fine {ts : List Tok} (h : valT ts = true) (hl : (joinS ts).length ≤ 65536) : joinR ts = (joinS ts, 0) := by
  unfold joinR
  rw [if_pos h, if_neg (by omega)]
theorem joinR_bad {ts : List Tok} (h : valT ts = false) : joinR ts = ([], 8) := by
  unfold joinR
  rw [if_neg (by rw [h]; simp)]
theorem sameL_comm : ∀ l m : List Tok, sameL l m = sameL m l
  | [], [] => rfl
  | [], _ :: _ => rfl
  | _ :: _, [] => rfl
  | a :: l, b :: m => by
    simp only [sameL, sameT]
    rw [sameL_comm l m, Bool.beq_comm (a := a.kind), Bool.beq_comm (a := a.num), Bool.beq_comm (a := a.text)]
theorem timeS_err {l : Bytes} {e : Int} (h : timeS l = .error e) : e ≠ 0 := by
  unfold timeS at h
  split at h
  · injection h with h; subst h; decide
  split at h
  · injection h with h; subst h; decide
  split at h
  · injection h with h; subst h; decide
  · cases h
theorem oneS_err {l : Bytes} {e : Int} (h : oneS l = .error e) : e ≠ 0 := by
  cases l with
  | nil => injection h with h; subst h; decide
  | cons c r =>
    rw [oneS_cons] at h
    split at h
    · unfold nameS at h
      split at h
      · injection h with h; subst h; decide
      split at h
      · split at h
        · injection h with h; subst h; decide
        · cases h
      · cases h
    split at h
    · rw [intS_eq] at h
      split at h
      · injection h with h; subst h; decide
      split at h
      · injection h with h; subst h; decide
      · cases h
    split at h
    · unfold litS at h
      split at h
      · injection h with h; subst h; decide
      · split at h
        · injection h with h; subst h; decide
        · cases h
    split at h
    · unfold atS at h
      split at h
      · injection h with h; subst h; decide
      split at h
      · rename_i e2 he
        injection h with h; subst h; exact timeS_err he
      · cases h
    · unfold symS at h
      split at h
      · cases h
      · injection h with h; subst h; decide
theorem splitGo_err : ∀ (f : Nat) (l : Bytes) (i : Nat) (x : Nat × Int), splitGo f l i = .error x → x.2 ≠ 0
  | 0, l, i, x, h => by cases h
  | f + 1, [], i, x, h => by cases h
  | f + 1, c :: r, i, x, h => by
    rw [splitGo_cons] at h
    split at h
    · exact splitGo_err f _ _ _ h
    · split at h
      · exact splitGo_err f _ _ _ h
      · split at h
        · rename_i e he
          injection h with h
          subst h
          exact oneS_err he
        · split at h
          · rename_i y hy
            injection h with h
            subst h
            exact splitGo_err f _ _ _ hy
          · cases h
theorem splitS_err {l : Bytes} {x : Nat × Int} (h : splitS l = .error x) : x.2 ≠ 0 := by
  unfold splitS at h
  split at h
  · injection h with h; subst h; decide
  · exact splitGo_err _ _ _ _ h
end Go.Proofs.YtajcddaahmbllaaDoor
