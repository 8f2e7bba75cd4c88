/- Contract: ref7.valid. -/
import Derived.Test.YtedjahbieheeoaaDoorValD
import Derived.Deep.RegionHeld3
set_option linter.unusedVariables false
set_option linter.unusedSimpArgs false
namespace Go.Proofs.YtedjahbieheeoaaDoor
open Go.RowKit
/-- The reference's word: an end is not among them. -/
def okTokR (k : Int) (x : Bytes) (n : Int) : Bool := if k = 0 then false else okTok k x n
theorem symT_self {l : Bytes} (h : l ≠ []) : (symT l == l) = symB l := by
  rw [Bool.eq_iff_iff, beq_iff_eq]
  unfold symB
  rw [List.contains_iff_mem]
  constructor
  · intro e
    unfold symT at e
    cases hf : symbolsS.find? (fun x => x.isPrefixOf l) with
    | none => rw [hf] at e; exact absurd e.symm h
    | some x =>
      rw [hf] at e
      have : x = l := e
      subst this
      exact List.mem_of_find?_eq_some hf
  · intro hm
    have : ∀ x ∈ symbolsS, symT x = x := by decide
    exact this l hm
set_option maxHeartbeats 4000000 in
theorem ref7_valid_any (k n o : Int) (s : ByteArray) (w : World) (hs : s.size ≤ maxLen) :
    Calls Tryd.prog 27 #[.agg #[.int .i64 k, .string s, .int .i64 n, .int .i64 o]] w fun e w' => e = .returned (.bool (okTokR k (bs s) n)) ∧ Below w.heap.size w w' := by
  have hs' := hs
  unfold maxLen at hs
  have HX := hide (fun W => ref5_IsQualified_any s W hs')
  have HL := hide (bs_len s)
  have HB := hide (bs_toList s)
  by_cases h5 : k = 5
  · subst h5
    by_cases hn : n = 0
    · subst hn
      by_cases he : s.size = 0
      · have hE : s.toList = [] := by rw [ByteArray.toList_eq]; exact List.eq_nil_of_length_eq_zero he
        have hE2 : (!s.toList.isEmpty) = false := by rw [hE]; rfl
        have HR := hide (show okTokR 5 (bs s) 0 = false by rw [bs_toList, hE]; rfl)
        clear hE he
        go_enter Tryd.func27, Tryd.ntmps27
        go_wp2
        go_big_quiet (fail)
        go_wp2
        go_ret
        exact ⟨ret_bool (by rw [HR.out]), by (repeat (first | exact Below.refl _ _ | assumption | refine Below.drew ?_ | refine below_drewN ?_ _ | refine Below.alloc ?_ (by first | omega | (simp; done) | (simp; omega)) _ | refine Below.setCell ?_ (by first | omega | (simp; done) | (simp; omega)) _))⟩
      · have hE2 : (!s.toList.isEmpty) = true := by
          cases h : s.toList with
          | nil => exact absurd (by rw [← bs_len, h]; rfl) he
          | cons => rfl
        have HR := hide (show okTokR 5 (bs s) 0 = (symT (bs s) == s.toList) by
          have hne : bs s ≠ [] := by
            rw [bs_toList]; intro e; rw [e] at hE2; cases hE2
          unfold okTokR
          rw [if_neg (by decide), okTok_5, ← symT_self hne, bs_toList]; simp)
        have HSy := hide (fun W => ref7_symbol_any s W hs' (by omega))
        clear he
        generalize symT (bs s) = y at *
        go_enter Tryd.func27, Tryd.ntmps27
        go_wp2
        go_region_held3 (fun w' => w'.cell? ⟨w.heap.size, 1, none⟩ = some (.string s) ∧ w'.cell? ⟨w.heap.size, 2, none⟩ = some (.int .i64 0)) (first | go_keep | exact ⟨k1, k2⟩)
          (first
            | (go_at_call 40; refine (HSy.out _).mono ?_; rintro e w1 ⟨rfl, hb1⟩; have k1 : w1.cell? ⟨w.heap.size, 1, none⟩ = some (.string s) := (hb1.cell (p := ⟨w.heap.size, 1, none⟩) (by simp)).trans (by simp); have k2 : w1.cell? ⟨w.heap.size, 2, none⟩ = some (.int .i64 0) := (hb1.cell (p := ⟨w.heap.size, 2, none⟩) (by simp)).trans (by simp); have hb0 : Below w.heap.size w w1 := Below.trans (by (repeat (first | exact Below.refl _ _ | assumption | refine Below.drew ?_ | refine below_drewN ?_ _ | refine Below.alloc ?_ (by first | omega | (simp; done) | (simp; omega)) _ | refine Below.setCell ?_ (by first | omega | (simp; done) | (simp; omega)) _))) (hb1.mono (by simp))))
        go_wp2
        go_ret
        exact ⟨ret_bool (by rw [HR.out]), by assumption⟩
    · have hn2 : (n == 0) = false := by simpa using hn
      have HR := hide (show okTokR 5 (bs s) n = false by unfold okTokR; rw [if_neg (by decide), okTok_5, hn2, Bool.and_false])
      clear hn
      go_enter Tryd.func27, Tryd.ntmps27
      go_wp2
      go_big_quiet (fail)
      go_wp2
      go_ret
      exact ⟨ret_bool (by rw [HR.out]), by (repeat (first | exact Below.refl _ _ | assumption | refine Below.drew ?_ | refine below_drewN ?_ _ | refine Below.alloc ?_ (by first | omega | (simp; done) | (simp; omega)) _ | refine Below.setCell ?_ (by first | omega | (simp; done) | (simp; omega)) _))⟩
  have b5 : (k == 5) = false := by simpa using h5
  clear h5
  go_enter Tryd.func27, Tryd.ntmps27
  go_wp2_with (first
    | (go_at_call 39; refine (HX.out _).mono ?_; rintro e w1 ⟨rfl, rfl⟩))
  all_goals
    go_ret
    refine ⟨ret_bool ?_, by first | assumption | (repeat (first | exact Below.refl _ _ | assumption | refine Below.drew ?_ | refine below_drewN ?_ _ | refine Below.alloc ?_ (by first | omega | (simp; done) | (simp; omega)) _ | refine Below.setCell ?_ (by first | omega | (simp; done) | (simp; omega)) _))⟩
    clear HX
    rw [HB.out]
    have hlen := HL.out
    have hbs := HB.out
    clear HL HB
    simp_all [okTok, okTokR] <;> omega
end Go.Proofs.YtedjahbieheeoaaDoor
