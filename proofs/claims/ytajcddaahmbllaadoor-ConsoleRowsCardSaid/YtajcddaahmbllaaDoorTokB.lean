/- Contracts of the readers of one token: names, integers, literals. -/
import Derived.Test.YtajcddaahmbllaaDoorSpec
import Derived.Test.YtajcddaahmbllaaDoorTokA
set_option linter.unusedVariables false
set_option linter.unusedSimpArgs false
namespace Go.Proofs.YtajcddaahmbllaaDoor
open Go.RowKit

def OneRes (r : Except Int (Tok × Nat)) (e : Ending) : Prop :=
  match r with
  | .ok x => e = .returned (.tuple #[x.1.agg, .int .i64 (x.2 : Nat), .int .i64 0])
  | .error c => c ≠ 0 ∧ ∃ (t : Tok) (n : Int), e = .returned (.tuple #[t.agg, .int .i64 n, .int .i64 c])
theorem OneRes_err {r : Except Int (Tok × Nat)} {c : Int} (h : r = .error c) (hc : c ≠ 0) (k n o m : Int) (t : Bytes) : OneRes r (.returned (.tuple #[.agg #[.int .i64 k, str t, .int .i64 n, .int .i64 o], .int .i64 m, .int .i64 c])) := by
  subst h; exact ⟨hc, ⟨k, t, n, o⟩, m, rfl⟩
theorem OneRes_ok {r : Except Int (Tok × Nat)} {t : Tok} {n : Nat} (h : r = .ok (t, n)) {v : Value} {m : Int} (hv : v = t.agg) (hm : m = n) : OneRes r (.returned (.tuple #[v, .int .i64 m, .int .i64 0])) := by
  subst h hv hm; rfl

theorem bs_from (s : ByteArray) (a : Nat) : bs (s.extract a s.size) = (bs s).drop a := by
  rw [bs_extract, List.take_of_length_le (by rw [bs_length]; exact Nat.le_refl _)]

theorem dotB_yes {s : ByteArray} {p : Nat} (h : dotB (bs s) p = true) : ∃ h1 : p + 1 < s.size, ((s[p].toNat : Int) == 46) = true ∧ letB s[p+1] = true := by
  unfold dotB at h
  by_cases h1 : p + 1 < (bs s).length
  · rw [dif_pos h1] at h
    simp only [Bool.and_eq_true, beq_iff_eq] at h
    have hp : p < s.size := Nat.lt_of_succ_lt h1
    refine ⟨h1, ?_, h.2⟩
    have : s[p].toNat = 46 := h.1
    simp [this]
  · rw [dif_neg h1] at h; cases h
theorem dotB_no {s : ByteArray} {p : Nat} (h : dotB (bs s) p = false) : ¬ p + 1 < s.size ∨ ∃ h1 : p + 1 < s.size, ((s[p].toNat : Int) == 46) = false ∨ (((s[p].toNat : Int) == 46) = true ∧ letB s[p+1] = false) := by
  unfold dotB at h
  by_cases h1 : p + 1 < (bs s).length
  · rw [dif_pos h1] at h
    have hp : p < s.size := Nat.lt_of_succ_lt h1
    refine .inr ⟨h1, ?_⟩
    have h : ((s[p].toNat == 46) && letB s[p+1]) = false := h
    cases h2 : letB s[p+1]
    · rw [h2] at h
      by_cases h3 : s[p].toNat = 46
      · exact .inr ⟨by simp [h3], rfl⟩
      · exact .inl (by simp; omega)
    · rw [h2] at h
      left; simp at h ⊢; omega
  · exact .inl h1

set_option maxHeartbeats 1000000 in
theorem token_name_any (s : ByteArray) (w : World) (hs : s.size ≤ maxLen) :
    Calls Tryd.prog 52 #[.string s] w fun e w' => OneRes (nameS (bs s)) e ∧ Below w.heap.size w w' := by
  have hs' := hs
  unfold maxLen at hs
  have hp := partL_le (bs s)
  rw [bs_length] at hp
  by_cases h1 : 24 < partL (bs s)
  · have hr : nameS (bs s) = .error 4 := by rw [nameS, if_pos h1]
    have H := hide hr; clear hr
    go_enter Tryd.func52, Tryd.ntmps52
    go_wp2_with (go_at_call 74; refine (token_part_any _ _ hs').mono ?_; rintro e w' ⟨rfl, rfl⟩)
    refine bodyPost_ret (v := .tuple #[.agg #[.int .i64 0, str [], .int .i64 0, .int .i64 0], .int .i64 0, .int .i64 4]) (by simp [results, Tryd.results52, go_sem]) rfl ⟨OneRes_err H.out (by decide) _ _ _ _ _, ?_⟩
    (repeat (first | exact Below.refl _ _ | assumption | refine Below.drew ?_ | refine below_drewN ?_ _ | refine Below.alloc ?_ (by first | omega | (simp; done) | (simp; omega)) _ | refine Below.setCell ?_ (by first | omega | (simp; done) | (simp; omega)) _))
  · cases h2 : dotB (bs s) (partL (bs s))
    · have hr : nameS (bs s) = .ok (⟨1, (bs s).take (partL (bs s)), 0, 0⟩, partL (bs s)) := by rw [nameS, if_neg h1, h2]; rfl
      have H := hide hr; clear hr
      have h3 := dotB_no h2
      clear h2
      rcases h3 with h3 | ⟨h3, h4 | ⟨h4, h5⟩⟩
      all_goals
        go_enter Tryd.func52, Tryd.ntmps52
        go_wp2_with (first
          | (go_at_call 74; refine (token_part_any _ _ hs').mono ?_; rintro e w' ⟨rfl, rfl⟩)
          | (go_at_call 51; refine (token_letter_any _ _).mono ?_; rintro e w' ⟨rfl, rfl⟩))
        refine bodyPost_ret (v := .tuple #[.agg #[.int .i64 1, .string (s.extract 0 (partL (bs s))), .int .i64 0, .int .i64 0], .int .i64 (partL (bs s)), .int .i64 0]) (by simp [results, Tryd.results52, go_sem]) rfl ⟨OneRes_ok H.out (by rw [str_take]) rfl, ?_⟩
        (repeat (first | exact Below.refl _ _ | assumption | refine Below.drew ?_ | refine below_drewN ?_ _ | refine Below.alloc ?_ (by first | omega | (simp; done) | (simp; omega)) _ | refine Below.setCell ?_ (by first | omega | (simp; done) | (simp; omega)) _))
    · obtain ⟨h3, h4, h5⟩ := dotB_yes h2
      have hq := partL_le ((bs s).drop (partL (bs s) + 1))
      rw [List.length_drop, bs_length] at hq
      by_cases h6 : 24 < partL ((bs s).drop (partL (bs s) + 1))
      · have hr : nameS (bs s) = .error 4 := by rw [nameS, if_neg h1, if_pos h2, if_pos h6]
        have H := hide hr; clear hr h2
        go_enter Tryd.func52, Tryd.ntmps52
        go_wp2_with (fail)
        refine (token_part_any _ _ hs').mono ?_; rintro e w' ⟨rfl, rfl⟩
        go_wp2_with (go_at_call 51; refine (token_letter_any _ _).mono ?_; rintro e w' ⟨rfl, rfl⟩)
        refine (token_part_any _ _ (by unfold maxLen; simp; omega)).mono ?_; rintro e w' ⟨rfl, rfl⟩
        rw [bs_from]
        go_wp2
        refine bodyPost_ret (v := .tuple #[.agg #[.int .i64 0, str [], .int .i64 0, .int .i64 0], .int .i64 0, .int .i64 4]) (by simp [results, Tryd.results52, go_sem]) rfl ⟨OneRes_err H.out (by decide) _ _ _ _ _, ?_⟩
        (repeat (first | exact Below.refl _ _ | assumption | refine Below.drew ?_ | refine below_drewN ?_ _ | refine Below.alloc ?_ (by first | omega | (simp; done) | (simp; omega)) _ | refine Below.setCell ?_ (by first | omega | (simp; done) | (simp; omega)) _))
      · have hr : nameS (bs s) = .ok (⟨1, (bs s).take (partL (bs s) + (1 + partL ((bs s).drop (partL (bs s) + 1)))), 0, 0⟩, partL (bs s) + (1 + partL ((bs s).drop (partL (bs s) + 1)))) := by rw [nameS, if_neg h1, if_pos h2, if_neg h6]
        have H := hide hr; clear hr h2
        go_enter Tryd.func52, Tryd.ntmps52
        go_wp2_with (fail)
        refine (token_part_any _ _ hs').mono ?_; rintro e w' ⟨rfl, rfl⟩
        go_wp2_with (go_at_call 51; refine (token_letter_any _ _).mono ?_; rintro e w' ⟨rfl, rfl⟩)
        refine (token_part_any _ _ (by unfold maxLen; simp; omega)).mono ?_; rintro e w' ⟨rfl, rfl⟩
        rw [bs_from]
        generalize hg : partL ((bs s).drop (partL (bs s) + 1)) = q at *
        have HG := hide hg; clear hg
        go_wp2
        refine bodyPost_ret (v := .tuple #[.agg #[.int .i64 1, .string (s.extract 0 (partL (bs s) + (1 + q))), .int .i64 0, .int .i64 0], .int .i64 (partL (bs s) + (1 + q)), .int .i64 0]) (by simp [results, Tryd.results52, go_sem]) rfl ⟨OneRes_ok H.out (by rw [str_take]) (by simp), ?_⟩
        (repeat (first | exact Below.refl _ _ | assumption | refine Below.drew ?_ | refine below_drewN ?_ _ | refine Below.alloc ?_ (by first | omega | (simp; done) | (simp; omega)) _ | refine Below.setCell ?_ (by first | omega | (simp; done) | (simp; omega)) _))

end Go.Proofs.YtajcddaahmbllaaDoor
