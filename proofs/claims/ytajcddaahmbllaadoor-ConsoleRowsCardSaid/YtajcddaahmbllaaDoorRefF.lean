/- Contract of the reference's reader of one token. -/
import Derived.Test.YtajcddaahmbllaaDoorRefA
import Derived.Test.YtajcddaahmbllaaDoorRefB
import Derived.Test.YtajcddaahmbllaaDoorRefC
import Derived.Test.YtajcddaahmbllaaDoorRefE
set_option linter.unusedVariables false
set_option linter.unusedSimpArgs false
namespace Go.Proofs.YtajcddaahmbllaaDoor
open Go.RowKit

theorem nameS_shape {l : Bytes} {t : Tok} {n : Nat} (h : nameS l = .ok (t, n)) : t = ⟨1, l.take n, 0, 0⟩ := by
  unfold nameS at h
  split at h
  · cases h
  · split at h
    · split at h
      · cases h
      · injection h with h; injection h with h1 h2; rw [← h1, ← h2]
    · injection h with h; injection h with h1 h2; rw [← h1, ← h2]
theorem intS_shape {l : Bytes} {t : Tok} {n : Nat} (h : intS l = .ok (t, n)) : t = ⟨2, [], t.num, 0⟩ := by
  rw [intS_eq] at h
  split at h
  · cases h
  · split at h
    · cases h
    · injection h with h; injection h with h1 h2; rw [← h1]
theorem litS_shape {l : Bytes} {t : Tok} {n : Nat} (h : litS l = .ok (t, n)) : t = ⟨3, t.text, 0, 0⟩ := by
  unfold litS at h
  split at h
  · cases h
  · split at h
    · cases h
    · injection h with h; injection h with h1 h2; rw [← h1]
theorem nameS_le {l : Bytes} {t : Tok} {n : Nat} (h : nameS l = .ok (t, n)) : n ≤ l.length := by
  have h2 := partL_le l
  have h3 := partL_le (l.drop (partL l + 1))
  unfold nameS at h
  split at h
  · cases h
  · split at h
    · rename_i hd
      have hd' : partL l + 1 < l.length := by
        unfold dotB at hd
        by_cases h : partL l + 1 < l.length
        · exact h
        · rw [dif_neg h] at hd; cases hd
      rw [List.length_drop] at h3
      split at h
      · cases h
      · injection h with h; injection h with _ h; omega
    · injection h with h; injection h with _ h; omega

set_option maxRecDepth 100000 in
set_option maxHeartbeats 4000000 in
theorem ref7_next_any (s : ByteArray) (w : World) (hs : s.size ≤ 65536) (h0 : 0 < s.size) :
    Calls Tryd.prog 37 #[.string s] w fun e w' => OneRes (oneS (bs s)) e ∧ Below w.heap.size w w' := by
  have hr := oneS_eq s h0
  have hsm : s.size ≤ maxLen := by unfold maxLen; omega
  have hsm' : s.size ≤ 140737488355328 := by omega
  by_cases c1 : letB s[0] = true
  · cases hn : nameS (bs s) with
    | error er =>
      have H := hide (show oneS (bs s) = .error er by rw [hr, if_pos c1, hn])
      have HN := hide hn
      clear hr hn
      go_enter Tryd.func37, Tryd.ntmps37
      go_wp2_with (first
        | (go_at_call 57; refine (ref7_letter_any _ _).mono ?_; rintro e w' ⟨rfl, rfl⟩))
      refine (ref7_name_any _ _ hsm).mono ?_
      rintro e w1 ⟨hres, rfl⟩
      rw [HN.out] at hres
      obtain ⟨hc0, rfl⟩ := hres
      have HC := hide hc0; clear hc0
      go_wp2
      refine bodyPost_ret (v := .tuple #[.agg #[.int .i64 1, .string (s.extract 0 0), .int .i64 0, .int .i64 0], .int .i64 0, .int .i64 er]) (by simp [results, Tryd.results37, go_sem]) rfl ⟨by rw [str_take]; exact OneRes_err H.out HC.out _ _ _ _ _, ?_⟩
      (repeat (first | exact Below.refl _ _ | assumption | refine Below.drew ?_ | refine below_drewN ?_ _ | refine Below.alloc ?_ (by first | omega | (simp; done) | (simp; omega)) _ | refine Below.setCell ?_ (by first | omega | (simp; done) | (simp; omega)) _))
    | ok x =>
      obtain ⟨t, n⟩ := x
      have H := hide (show oneS (bs s) = .ok (t, n) by rw [hr, if_pos c1, hn])
      have HN := hide hn
      have HT := hide (nameS_shape hn)
      have hle := nameS_le hn
      rw [bs_length] at hle
      clear hr hn
      go_enter Tryd.func37, Tryd.ntmps37
      go_wp2_with (first
        | (go_at_call 57; refine (ref7_letter_any _ _).mono ?_; rintro e w' ⟨rfl, rfl⟩))
      refine (ref7_name_any _ _ hsm).mono ?_
      rintro e w1 ⟨hres, rfl⟩
      rw [HN.out] at hres
      obtain rfl : e = .returned (.tuple #[.int .i64 (n : Nat), .int .i64 0]) := hres
      go_wp2
      refine bodyPost_ret (v := .tuple #[.agg #[.int .i64 1, .string (s.extract 0 n), .int .i64 0, .int .i64 0], .int .i64 n, .int .i64 0]) (by simp [results, Tryd.results37, go_sem]) rfl ⟨OneRes_ok H.out (by rw [HT.out, str_take]) rfl, ?_⟩
      (repeat (first | exact Below.refl _ _ | assumption | refine Below.drew ?_ | refine below_drewN ?_ _ | refine Below.alloc ?_ (by first | omega | (simp; done) | (simp; omega)) _ | refine Below.setCell ?_ (by first | omega | (simp; done) | (simp; omega)) _))
  rw [if_neg c1] at hr
  have c1' : letB s[0] = false := by simpa using c1
  clear c1
  by_cases c2 : digB s[0] = true
  · cases hn : intS (bs s) with
    | error er =>
      have H := hide (show oneS (bs s) = .error er by rw [hr, if_pos c2, hn])
      have HN := hide hn
      clear hr hn
      go_enter Tryd.func37, Tryd.ntmps37
      go_wp2_with (first
        | (go_at_call 57; refine (ref7_letter_any _ _).mono ?_; rintro e w' ⟨rfl, rfl⟩)
        | (go_at_call 59; refine (ref7_digit_any _ _).mono ?_; rintro e w' ⟨rfl, rfl⟩))
      refine (ref7_integer_any _ _ hsm h0).mono ?_
      rintro e w1 ⟨hres, rfl⟩
      rw [HN.out] at hres
      obtain ⟨hc0, rfl⟩ := hres
      have HC := hide hc0; clear hc0
      go_wp2
      refine bodyPost_ret (v := .tuple #[.agg #[.int .i64 2, str [], .int .i64 0, .int .i64 0], .int .i64 0, .int .i64 er]) (by simp [results, Tryd.results37, go_sem]) rfl ⟨OneRes_err H.out HC.out _ _ _ _ _, ?_⟩
      (repeat (first | exact Below.refl _ _ | assumption | refine Below.drew ?_ | refine below_drewN ?_ _ | refine Below.alloc ?_ (by first | omega | (simp; done) | (simp; omega)) _ | refine Below.setCell ?_ (by first | omega | (simp; done) | (simp; omega)) _))
    | ok x =>
      obtain ⟨t, n⟩ := x
      have H := hide (show oneS (bs s) = .ok (t, n) by rw [hr, if_pos c2, hn])
      have HN := hide hn
      have HT := hide (intS_shape hn)
      clear hr hn
      go_enter Tryd.func37, Tryd.ntmps37
      go_wp2_with (first
        | (go_at_call 57; refine (ref7_letter_any _ _).mono ?_; rintro e w' ⟨rfl, rfl⟩)
        | (go_at_call 59; refine (ref7_digit_any _ _).mono ?_; rintro e w' ⟨rfl, rfl⟩))
      refine (ref7_integer_any _ _ hsm h0).mono ?_
      rintro e w1 ⟨hres, rfl⟩
      rw [HN.out] at hres
      obtain rfl : e = .returned (.tuple #[.int .i64 t.num, .int .i64 (n : Nat), .int .i64 0]) := hres
      go_wp2
      refine bodyPost_ret (v := .tuple #[.agg #[.int .i64 2, str [], .int .i64 t.num, .int .i64 0], .int .i64 n, .int .i64 0]) (by simp [results, Tryd.results37, go_sem]) rfl ⟨OneRes_ok H.out (by rw [HT.out]) rfl, ?_⟩
      (repeat (first | exact Below.refl _ _ | assumption | refine Below.drew ?_ | refine below_drewN ?_ _ | refine Below.alloc ?_ (by first | omega | (simp; done) | (simp; omega)) _ | refine Below.setCell ?_ (by first | omega | (simp; done) | (simp; omega)) _))
  rw [if_neg c2] at hr
  have c2' : digB s[0] = false := by simpa using c2
  clear c2
  by_cases c3 : s[0].toNat = 39
  · have c3' : ((s[0].toNat : Int) == 39) = true := by simp; omega
    cases hn : litS (bs s) with
    | error er =>
      have H := hide (show oneS (bs s) = .error er by rw [hr, if_pos c3, hn])
      have HN := hide hn
      clear hr hn c3
      go_enter Tryd.func37, Tryd.ntmps37
      go_wp2_with (first
        | (go_at_call 57; refine (ref7_letter_any _ _).mono ?_; rintro e w' ⟨rfl, rfl⟩)
        | (go_at_call 59; refine (ref7_digit_any _ _).mono ?_; rintro e w' ⟨rfl, rfl⟩))
      refine (ref7_text_any _ _ hsm' h0).mono ?_
      rintro e w1 ⟨hres, hb⟩
      rw [HN.out] at hres
      obtain ⟨hc0, rfl⟩ := hres
      have HC := hide hc0; clear hc0
      obtain ⟨k0, k1, k2, k3, ⟨f0, f1, f2, f3⟩, hz, hb0⟩ := box4 (by simpa using hb)
      clear hb
      go_wp2
      refine bodyPost_ret (v := .tuple #[.agg #[.int .i64 3, str [], .int .i64 0, .int .i64 0], .int .i64 0, .int .i64 er]) (by simp [results, Tryd.results37, go_sem, k0, k1, k2, k3]) rfl ⟨OneRes_err H.out HC.out _ _ _ _ _, ?_⟩
      (repeat (first | exact Below.refl _ _ | assumption | refine Below.drew ?_ | refine below_drewN ?_ _ | refine Below.alloc ?_ (by first | omega | (simp; done) | (simp; omega)) _ | refine Below.setCell ?_ (by first | omega | (simp; done) | (simp; omega)) _))
    | ok x =>
      obtain ⟨t, n⟩ := x
      have H := hide (show oneS (bs s) = .ok (t, n) by rw [hr, if_pos c3, hn])
      have HN := hide hn
      have HT := hide (litS_shape hn)
      clear hr hn c3
      go_enter Tryd.func37, Tryd.ntmps37
      go_wp2_with (first
        | (go_at_call 57; refine (ref7_letter_any _ _).mono ?_; rintro e w' ⟨rfl, rfl⟩)
        | (go_at_call 59; refine (ref7_digit_any _ _).mono ?_; rintro e w' ⟨rfl, rfl⟩))
      refine (ref7_text_any _ _ hsm' h0).mono ?_
      rintro e w1 ⟨hres, hb⟩
      rw [HN.out] at hres
      obtain rfl : e = .returned (.tuple #[str t.text, .int .i64 (n : Nat), .int .i64 0]) := hres
      obtain ⟨k0, k1, k2, k3, ⟨f0, f1, f2, f3⟩, hz, hb0⟩ := box4 (by simpa using hb)
      clear hb
      go_wp2
      refine bodyPost_ret (v := .tuple #[.agg #[.int .i64 3, str t.text, .int .i64 0, .int .i64 0], .int .i64 n, .int .i64 0]) (by simp [results, Tryd.results37, go_sem, k0, k1, k2, k3]) rfl ⟨OneRes_ok H.out (by rw [HT.out]) rfl, ?_⟩
      (repeat (first | exact Below.refl _ _ | assumption | refine Below.drew ?_ | refine below_drewN ?_ _ | refine Below.alloc ?_ (by first | omega | (simp; done) | (simp; omega)) _ | refine Below.setCell ?_ (by first | omega | (simp; done) | (simp; omega)) _))
  rw [if_neg c3] at hr
  have c3' : ((s[0].toNat : Int) == 39) = false := by simp; omega
  clear c3
  by_cases c4 : s[0].toNat = 64
  · have c4' : ((s[0].toNat : Int) == 64) = true := by simp; omega
    have H := hide (show oneS (bs s) = atS (bs s) by rw [hr, if_pos c4])
    clear hr c4
    by_cases h17 : s.size < 17
    · have HE := hide (show oneS (bs s) = .error 3 by rw [H.out, atS, if_pos (by rw [bs_length]; exact h17)])
      go_enter Tryd.func37, Tryd.ntmps37
      go_wp2_with (first
        | (go_at_call 57; refine (ref7_letter_any _ _).mono ?_; rintro e w' ⟨rfl, rfl⟩)
        | (go_at_call 59; refine (ref7_digit_any _ _).mono ?_; rintro e w' ⟨rfl, rfl⟩))
      refine bodyPost_ret (v := .tuple #[.agg #[.int .i64 0, str [], .int .i64 0, .int .i64 0], .int .i64 0, .int .i64 3]) (by simp [results, Tryd.results37, go_sem]) rfl ⟨OneRes_err HE.out (by decide) _ _ _ _ _, ?_⟩
      (repeat (first | exact Below.refl _ _ | assumption | refine Below.drew ?_ | refine below_drewN ?_ _ | refine Below.alloc ?_ (by first | omega | (simp; done) | (simp; omega)) _ | refine Below.setCell ?_ (by first | omega | (simp; done) | (simp; omega)) _))
    · go_enter Tryd.func37, Tryd.ntmps37
      go_wp2_with (first
        | (go_at_call 57; refine (ref7_letter_any _ _).mono ?_; rintro e w' ⟨rfl, rfl⟩)
        | (go_at_call 59; refine (ref7_digit_any _ _).mono ?_; rintro e w' ⟨rfl, rfl⟩))
      refine (ref3_Parse_any _ _ (by unfold maxLen; simp; omega)).mono ?_
      rintro e w1 ⟨hres, hb⟩
      obtain ⟨n, c, rfl⟩ := TimeRes_shape hres
      rw [bs_extract] at hres
      have HR := hide (TimeRes_at (by rw [bs_length]; exact h17) hres); clear hres
      obtain ⟨k0, k1, k2, k3, ⟨f0, f1, f2, f3⟩, hz, hb0⟩ := box4 (by simpa using hb)
      clear hb
      go_wp2
      refine bodyPost_ret (v := .tuple #[.agg #[.int .i64 4, str [], .int .i64 n, .int .i64 0], .int .i64 17, .int .i64 c]) (by simp [results, Tryd.results37, go_sem, k0, k1, k2, k3]) rfl ⟨by rw [H.out]; exact HR.out, ?_⟩
      (repeat (first | exact Below.refl _ _ | assumption | refine Below.drew ?_ | refine below_drewN ?_ _ | refine Below.alloc ?_ (by first | omega | (simp; done) | (simp; omega)) _ | refine Below.setCell ?_ (by first | omega | (simp; done) | (simp; omega)) _))
  rw [if_neg c4] at hr
  have c4' : ((s[0].toNat : Int) == 64) = false := by simp; omega
  have hr2 := hr.trans (symS_symT (bs s))
  clear c4 hr
  have HS := hide (fun W => ref7_symbol_any s W hsm h0)
  generalize symT (bs s) = y at *
  cases hy : y with
  | nil =>
    have HE := hide (show oneS (bs s) = .error 3 by rw [hr2, if_pos hy])
    subst hy
    clear hr2
    go_enter Tryd.func37, Tryd.ntmps37
    go_wp2_with (first
      | (go_at_call 57; refine (ref7_letter_any _ _).mono ?_; rintro e w' ⟨rfl, rfl⟩)
      | (go_at_call 59; refine (ref7_digit_any _ _).mono ?_; rintro e w' ⟨rfl, rfl⟩))
    refine (HS.out _).mono ?_
    rintro e w1 ⟨rfl, hb⟩
    obtain ⟨k0, k1, k2, k3, ⟨f0, f1, f2, f3⟩, hz, hb0⟩ := box4 (by simpa using hb)
    clear hb
    go_wp2
    refine bodyPost_ret (v := .tuple #[.agg #[.int .i64 0, str [], .int .i64 0, .int .i64 0], .int .i64 0, .int .i64 3]) (by simp [results, Tryd.results37, go_sem, k0, k1, k2, k3]) rfl ⟨OneRes_err HE.out (by decide) _ _ _ _ _, ?_⟩
    (repeat (first | exact Below.refl _ _ | assumption | refine Below.drew ?_ | refine below_drewN ?_ _ | refine Below.alloc ?_ (by first | omega | (simp; done) | (simp; omega)) _ | refine Below.setCell ?_ (by first | omega | (simp; done) | (simp; omega)) _))
  | cons c r =>
    have HE := hide (show oneS (bs s) = .ok (⟨5, y, 0, 0⟩, y.length) by rw [hr2, if_neg (by rw [hy]; exact List.cons_ne_nil _ _)])
    have hne : y.isEmpty = false := by rw [hy]; rfl
    have hne2 : (y == []) = false := by rw [hy]; rfl
    clear hr2 hy
    go_enter Tryd.func37, Tryd.ntmps37
    go_wp2_with (first
      | (go_at_call 57; refine (ref7_letter_any _ _).mono ?_; rintro e w' ⟨rfl, rfl⟩)
      | (go_at_call 59; refine (ref7_digit_any _ _).mono ?_; rintro e w' ⟨rfl, rfl⟩))
    refine (HS.out _).mono ?_
    rintro e w1 ⟨rfl, hb⟩
    obtain ⟨k0, k1, k2, k3, ⟨f0, f1, f2, f3⟩, hz, hb0⟩ := box4 (by simpa using hb)
    clear hb
    go_wp2
    refine bodyPost_ret (v := .tuple #[.agg #[.int .i64 5, str y, .int .i64 0, .int .i64 0], .int .i64 y.length, .int .i64 0]) (by simp [results, Tryd.results37, go_sem, k0, k1, k2, k3]) rfl ⟨OneRes_ok HE.out rfl rfl, ?_⟩
    (repeat (first | exact Below.refl _ _ | assumption | refine Below.drew ?_ | refine below_drewN ?_ _ | refine Below.alloc ?_ (by first | omega | (simp; done) | (simp; omega)) _ | refine Below.setCell ?_ (by first | omega | (simp; done) | (simp; omega)) _))

end Go.Proofs.YtajcddaahmbllaaDoor
