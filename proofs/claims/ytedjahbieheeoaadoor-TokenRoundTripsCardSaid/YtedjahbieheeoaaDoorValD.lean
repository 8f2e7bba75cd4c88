/- Contracts: slices.Contains of strings, token.valid. -/
import Derived.Test.YtedjahbieheeoaaDoorVals
import Derived.Test.YtedjahbieheeoaaDoorLawB
set_option linter.unusedVariables false
set_option linter.unusedSimpArgs false
namespace Go.Proofs.YtedjahbieheeoaaDoor
open Go.RowKit
theorem strs_getD (ls : List Bytes) (j : Nat) (h : j < ls.length) : (ls.map fun l => (⟨l.toArray⟩ : ByteArray)).getD j ByteArray.empty = ⟨(ls.getD j []).toArray⟩ := by
  simp [List.getD_eq_getElem?_getD, h]
theorem contains_any (b off cp : Nat) (ls : List Bytes) (x : ByteArray) (w : World) (hn : ls.length ≤ 9223372036854775807) (hc : ∀ j, j < ls.length → w.cell? ⟨b, off + j, none⟩ = some (str (ls.getD j []))) :
    Calls Tryd.prog 24 #[.slice (some ⟨b, off, none⟩) ls.length cp, .string x] w fun e w' => e = .returned (.bool (hasB ls (bs x))) ∧ w = w' := by
  refine (Tryd.slices_Contains_string b off ls.length cp (ls.map fun l => ⟨l.toArray⟩) x w (by simp) hn (fun j hj => ?_)).mono fun e w' ⟨h1, h2⟩ => ⟨?_, h2.symm⟩
  · have hj' : j < ls.length := by simpa using hj
    rw [hc j hj', strs_getD ls j hj']
  · rw [h1, List.take_of_length_le (by simp), containsS_map]
theorem okTok_0 (x : Bytes) (n : Int) : okTok 0 x n = (x.isEmpty && n == 0) := rfl
theorem okTok_1 (x : Bytes) (n : Int) : okTok 1 x n = (isQualB 24 x && n == 0) := rfl
theorem okTok_2 (x : Bytes) (n : Int) : okTok 2 x n = (x.isEmpty && (decide (0 ≤ n) && decide (n ≤ 1073741824))) := rfl
theorem okTok_3 (x : Bytes) (n : Int) : okTok 3 x n = (decide (x.length ≤ 64) && n == 0) := rfl
theorem okTok_4 (x : Bytes) (n : Int) : okTok 4 x n = (x.isEmpty && (decide (0 ≤ n) && decide (n ≤ 575999999))) := rfl
theorem okTok_5 (x : Bytes) (n : Int) : okTok 5 x n = (symB x && n == 0) := rfl
theorem okTok_no {k : Int} (h0 : (k == 0) = false) (h1 : (k == 1) = false) (h2 : (k == 2) = false) (h3 : (k == 3) = false) (h4 : (k == 4) = false) (h5 : (k == 5) = false) (x : Bytes) (n : Int) : okTok k x n = false := by
  simp only [beq_eq_false_iff_ne] at *
  unfold okTok
  rw [if_neg h0, if_neg h1, if_neg h2, if_neg h3, if_neg h4, if_neg h5]
theorem bs_toList (s : ByteArray) : bs s = s.toList := (ByteArray.toList_eq s).symm
theorem bs_len (s : ByteArray) : s.toList.length = s.size := by rw [← bs_toList]; rfl
set_option maxHeartbeats 4000000 in
theorem token_valid_any (k n o : Int) (s : ByteArray) (w : World) (hG : Glob w) (hs : s.size ≤ maxLen) :
    Calls Tryd.prog 26 #[.agg #[.int .i64 k, .string s, .int .i64 n, .int .i64 o]] w fun e w' => e = .returned (.bool (okTok k (bs s) n)) ∧ Below w.heap.size w w' := by
  have hs' := hs
  unfold maxLen at hs
  obtain ⟨hg, b, off, cp, hb, hv, hcells⟩ := hG.syms
  have HX := hide (fun W => schema_IsQualified_any s W hs')
  have HS := hide (fun W (hW : Below w.heap.size w W) => contains_any b off cp symbolsS s W (by decide) (fun j hj => by rw [hW.cell (p := ⟨b, off + j, none⟩) hb]; exact hcells j hj))
  rw [show hasB symbolsS (bs s) = symB (bs s) from rfl] at HS
  have hl18 : symbolsS.length = 18 := rfl
  rw [hl18] at hv HS
  clear hcells hl18 hG
  have HL := hide (bs_len s)
  have HB := hide (bs_toList s)
  have hk5 := hide (fun h0 h1 h2 h3 h4 h5 => okTok_no (k := k) h0 h1 h2 h3 h4 h5 (bs s) n)
  go_enter Tryd.func26, Tryd.ntmps26
  go_wp2_with (first
    | (go_at_call 38; refine (HX.out _).mono ?_; rintro e w1 ⟨rfl, hb1⟩; obtain ⟨k0, k1, k2, k3, ⟨f0, f1, f2, f3⟩, hz, hb0⟩ := box4 (by simpa using hb1); clear hb1)
    | (go_at_call 24; refine (HS.out _ ((Below.refl _ _).alloc (Nat.le_refl _) _)).mono ?_; rintro e w1 ⟨rfl, rfl⟩))
  all_goals
    go_ret
    refine ⟨ret_bool ?_, by first | assumption | (repeat (first | exact Below.refl _ _ | assumption | refine Below.drew ?_ | refine below_drewN ?_ _ | refine Below.alloc ?_ (by first | omega | (simp; done) | (simp; omega)) _ | refine Below.setCell ?_ (by first | omega | (simp; done) | (simp; omega)) _))⟩
    clear HX HS
    rw [HB.out]
    have hlen := HL.out
    have hbs := HB.out
    clear HL HB hk5 hv hb
    simp_all [okTok] <;> omega
end Go.Proofs.YtedjahbieheeoaaDoor
