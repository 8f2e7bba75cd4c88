/- Contract of the reader of a time, the program's. Contract of the reader of one token, the program's. -/
import Derived.Test.YtlfedcbihbigoaaGreatDoorCivAD
import Derived.Deep.RegionWith
import Derived.Test.YtlfedcbihbigoaaGreatDoorTokAD
set_option linter.unusedVariables false
set_option linter.unusedSimpArgs false
namespace Go.Proofs.YtlfedcbihbigoaaGreatDoor
open Go.RowKit

theorem form_get (k : Nat) (hk : k < (⟨#[48, 48, 48, 48, 45, 48, 48, 45, 48, 48, 84, 48, 48, 58, 48, 48]⟩ : ByteArray).size) : (⟨#[48, 48, 48, 48, 45, 48, 48, 45, 48, 48, 84, 48, 48, 58, 48, 48]⟩ : ByteArray)[k] = timeForm.getD k 0 := by
  have h : k < timeForm.length := hk
  rw [List.getD, List.getElem?_eq_getElem h, Option.getD_some]
  rfl

set_option maxRecDepth 100000 in
set_option maxHeartbeats 2000000 in
theorem civil_Parse_any (s : ByteArray) (w : World) (hG : LenVar w 3) (hs : s.size ≤ maxLen) :
    Calls Tryz.prog 114 #[.string s] w fun e w' => TimeRes (timeS (bs s)) e ∧ Below w.heap.size w w' := by
  have HG := hide hG; clear hG
  unfold maxLen at hs
  have HT := hide (timeS_eq s)
  by_cases h16 : s.size = 16
  · have a16 : ((s.size : Int) != 16) = false := by simp; omega
    have b16 : 16 ≤ s.size := by omega
    have H16 := hide h16; clear h16
    go_enter Tryz.func114, Tryz.ntmps114
    go_wp2
    go_loopw [13] (fun i wr => ∃ (k n : Nat), k ≤ 16 ∧ i = .int .i64 k ∧ wr = w.drewN n ∧ Hid (∀ j (hj : j < s.size), j < k → fit1 (timeForm.getD j 0) s[j] = true)) (fun i _ => 16 - (intOf i).toNat)
    case atStart => exact ⟨0, 0, by omega, rfl, rfl, fun j _ h => absurd h (Nat.not_lt_zero _)⟩
    case round =>
      obtain ⟨k, n, hk, rfl, rfl, HF⟩ := hrel
      by_cases hlt : k < 16
      · have hkf : k < (⟨#[48, 48, 48, 48, 45, 48, 48, 45, 48, 48, 84, 48, 48, 58, 48, 48]⟩ : ByteArray).size := hlt
        have hks : k < s.size := by omega
        have hfg := form_get k hkf
        cases hf : fit1 (timeForm.getD k 0) s[k]
        · have HE := hide (show timeS (bs s) = .error 3 by
            rw [HT.out, if_pos]
            cases hb : fitB timeForm (bs s)
            · rfl
            · have := (fit_dig hb).2 k (by omega)
              rw [this] at hf; cases hf)
          rw [← hfg] at hf
          clear hfg
          unfold fit1 at hf
          by_cases h48 : (⟨#[48, 48, 48, 48, 45, 48, 48, 45, 48, 48, 84, 48, 48, 58, 48, 48]⟩ : ByteArray)[k].toNat = 48
          · rw [if_pos h48] at hf
            have f1 : (((⟨#[48, 48, 48, 48, 45, 48, 48, 45, 48, 48, 84, 48, 48, 58, 48, 48]⟩ : ByteArray)[k].toNat : Int) == 48) = true := by simp [h48]
            have f2 : (((⟨#[48, 48, 48, 48, 45, 48, 48, 45, 48, 48, 84, 48, 48, 58, 48, 48]⟩ : ByteArray)[k].toNat : Int) != 48) = false := by simp [h48]
            have hg : decide ((s[k].toNat : Int) < 48) = true ∨ (decide ((s[k].toNat : Int) < 48) = false ∧ decide (57 < (s[k].toNat : Int)) = true) := by unfold digB at hf; simp at hf; simp; omega
            clear h48 hf
            rcases hg with g | ⟨g, g'⟩
            all_goals
              go_wp2
              go_big_quiet (fail)
              go_wp2
              go_ret2
              exact ⟨TimeRes_err HE.out (by decide) _, below_drewN (below_drewN (Below.refl _ _) _) _⟩
          · rw [if_neg h48] at hf
            have f1 : (((⟨#[48, 48, 48, 48, 45, 48, 48, 45, 48, 48, 84, 48, 48, 58, 48, 48]⟩ : ByteArray)[k].toNat : Int) == 48) = false := by simp; omega
            have f2 : (((⟨#[48, 48, 48, 48, 45, 48, 48, 45, 48, 48, 84, 48, 48, 58, 48, 48]⟩ : ByteArray)[k].toNat : Int) != 48) = true := by simp; omega
            have f3 : ((s[k].toNat : Int) != ((⟨#[48, 48, 48, 48, 45, 48, 48, 45, 48, 48, 84, 48, 48, 58, 48, 48]⟩ : ByteArray)[k].toNat : Int)) = true := by simp at hf; simp; omega
            clear h48 hf
            go_wp2
            go_big_quiet (fail)
            go_wp2
            go_ret2
            exact ⟨TimeRes_err HE.out (by decide) _, below_drewN (below_drewN (Below.refl _ _) _) _⟩
        · have HF' := hide (show ∀ j (hj : j < s.size), j < k + 1 → fit1 (timeForm.getD j 0) s[j] = true from fun j hj h => by
            by_cases e : j = k
            · subst e; exact hf
            · exact HF.out j hj (by omega))
          rw [← hfg] at hf
          clear hfg
          unfold fit1 at hf
          by_cases h48 : (⟨#[48, 48, 48, 48, 45, 48, 48, 45, 48, 48, 84, 48, 48, 58, 48, 48]⟩ : ByteArray)[k].toNat = 48
          · rw [if_pos h48] at hf
            have f1 : (((⟨#[48, 48, 48, 48, 45, 48, 48, 45, 48, 48, 84, 48, 48, 58, 48, 48]⟩ : ByteArray)[k].toNat : Int) == 48) = true := by simp [h48]
            have f2 : (((⟨#[48, 48, 48, 48, 45, 48, 48, 45, 48, 48, 84, 48, 48, 58, 48, 48]⟩ : ByteArray)[k].toNat : Int) != 48) = false := by simp [h48]
            have hg : decide ((s[k].toNat : Int) < 48) = false ∧ decide (57 < (s[k].toNat : Int)) = false := by unfold digB at hf; simp at hf; simp; omega
            clear h48 hf
            obtain ⟨g, g'⟩ := hg
            go_wp2
            go_big_quiet (fail)
            go_wp2
            exact ⟨⟨k + 1, _, by omega, by go_num, rfl, HF'⟩, by simp [intOf]; omega⟩
          · rw [if_neg h48] at hf
            have f1 : (((⟨#[48, 48, 48, 48, 45, 48, 48, 45, 48, 48, 84, 48, 48, 58, 48, 48]⟩ : ByteArray)[k].toNat : Int) == 48) = false := by simp; omega
            have f2 : (((⟨#[48, 48, 48, 48, 45, 48, 48, 45, 48, 48, 84, 48, 48, 58, 48, 48]⟩ : ByteArray)[k].toNat : Int) != 48) = true := by simp; omega
            have f3 : ((s[k].toNat : Int) != ((⟨#[48, 48, 48, 48, 45, 48, 48, 45, 48, 48, 84, 48, 48, 58, 48, 48]⟩ : ByteArray)[k].toNat : Int)) = false := by simp at hf; simp; omega
            clear h48 hf
            go_wp2
            go_big_quiet (fail)
            go_wp2
            exact ⟨⟨k + 1, _, by omega, by go_num, rfl, HF'⟩, by simp [intOf]; omega⟩
      · have hfit : fitB timeForm (bs s) = true := by
          rw [fitB_iff]
          have h16 := H16.out
          refine ⟨h16, fun j hj => ?_⟩
          have hj' : j < s.size := by have : timeForm.length = 16 := rfl; omega
          have := HF.out j hj' (by have : timeForm.length = 16 := rfl; omega)
          rw [List.getD, List.getD, List.getElem?_eq_getElem (show j < (bs s).length from hj')]
          exact this
        obtain ⟨p0, p1, p2, p3, p4⟩ := pieces hfit
        obtain ⟨y0, y1⟩ := numS_bd _ p0 (by rw [bs_length]; simp; omega)
        obtain ⟨m0, m1⟩ := numS_bd2 _ p1 (by rw [bs_length]; simp; omega)
        obtain ⟨d0, d1⟩ := numS_bd2 _ p2 (by rw [bs_length]; simp; omega)
        obtain ⟨h0, h1⟩ := numS_bd2 _ p3 (by rw [bs_length]; simp; omega)
        obtain ⟨i0, i1⟩ := numS_bd2 _ p4 (by rw [bs_length]; simp; omega)
        have N0 := hide (fun W => civil_number_any (s.extract 0 4) W (by simp; omega) p0)
        have N1 := hide (fun W => civil_number_any (s.extract 5 7) W (by simp; omega) p1)
        have N2 := hide (fun W => civil_number_any (s.extract 8 10) W (by simp; omega) p2)
        have N3 := hide (fun W => civil_number_any (s.extract 11 13) W (by simp; omega) p3)
        have N4 := hide (fun W => civil_number_any (s.extract 14 16) W (by simp; omega) p4)
        have HT' := hide (show timeS (bs s) = _ from HT.out.trans (if_neg (by rw [hfit]; decide)))
        clear p0 p1 p2 p3 p4 HT hfit
        generalize numS (bs (s.extract 0 4)) = Y at *
        generalize numS (bs (s.extract 5 7)) = M at *
        generalize numS (bs (s.extract 8 10)) = D at *
        generalize numS (bs (s.extract 11 13)) = hour at *
        generalize numS (bs (s.extract 14 16)) = minute at *
        have hgl : LenVar (w.drewN n) 3 := HG.out.below (below_drewN (Below.refl _ _) _)
        have hb0 : Below w.heap.size w (w.drewN n) := below_drewN (Below.refl _ _) _
        generalize w.drewN n = wx at *
        cases hday : daysS Y M D with
        | none =>
          have HE := hide (show timeS (bs s) = .error 1 by rw [HT'.out, hday])
          have HDy := hide (show ∀ W : World, LenVar W 3 → Calls Tryz.prog 139 #[.int .i64 Y, .int .i64 M, .int .i64 D] W fun e w' => e = .returned (.tuple #[.int .i64 0, .bool false]) ∧ W = w' from fun W hG => (civil_Days_any Y M D W hG (by omega) (by omega) (by omega) (by omega) (by omega) (by omega)).mono fun e w' ⟨h1, h2⟩ => ⟨by rw [hday] at h1; exact h1, h2⟩)
          clear hday HT'
          have c : decide (23 < hour) = true ∨ (decide (23 < hour) = false ∧ decide (59 < minute) = true) ∨ (decide (23 < hour) = false ∧ decide (59 < minute) = false) := by simp; omega
          rcases c with c | ⟨c, c'⟩ | ⟨c, c'⟩
          all_goals
            go_wp2
            go_big_quiet ((first | (go_at_call_of 138 (Value.string (s.extract 11 13)); exact quiet_left (N3.out _)) | (go_at_call_of 138 (Value.string (s.extract 14 16)); exact quiet_left (N4.out _))))
            have hb1 := below_drewN hb0 nq
            have hl1 := hgl.below (below_drewN (Below.refl _ _) nq)
            generalize wx.drewN nq = wy at *
            go_wp2
            go_big_quiet ((first | (go_at_call_of 138 (Value.string (s.extract 0 4)); exact quiet_left (N0.out _)) | (go_at_call_of 138 (Value.string (s.extract 5 7)); exact quiet_left (N1.out _)) | (go_at_call_of 138 (Value.string (s.extract 8 10)); exact quiet_left (N2.out _)) | (go_at_call 139; exact quiet_left (HDy.out _ (hl1.below (below_drewN (Below.refl _ _) _))))))
            have hb2 := below_drewN hb1 nq
            generalize wy.drewN nq = wz at *
            go_wp2
            go_ret2
            exact ⟨TimeRes_err HE.out (by decide) _, hb2⟩
        | some N =>
          have hN := dayN_bd hday
          obtain ⟨nn0, nn1⟩ := hN
          have HDy := hide (show ∀ W : World, LenVar W 3 → Calls Tryz.prog 139 #[.int .i64 Y, .int .i64 M, .int .i64 D] W fun e w' => e = .returned (.tuple #[.int .i64 N, .bool true]) ∧ W = w' from fun W hG => (civil_Days_any Y M D W hG (by omega) (by omega) (by omega) (by omega) (by omega) (by omega)).mono fun e w' ⟨h1, h2⟩ => ⟨by rw [hday] at h1; exact h1, h2⟩)
          have HV := hide (show timeS (bs s) = _ from by rw [HT'.out, hday])
          clear hday HT'
          by_cases hbad : 23 < hour ∨ 59 < minute ∨ 575999999 < N * 1440 + hour * 60 + minute
          · have HE := hide (show timeS (bs s) = .error 1 by rw [HV.out]; exact if_pos hbad)
            have c : decide (23 < hour) = true ∨ (decide (23 < hour) = false ∧ decide (59 < minute) = true) ∨ (decide (23 < hour) = false ∧ decide (59 < minute) = false ∧ decide (575999999 < N * 1440 + hour * 60 + minute) = true) := by simp; omega
            clear hbad
            rcases c with c | ⟨c, c'⟩ | ⟨c, c', c''⟩
            all_goals
              go_wp2
              go_big_quiet ((first | (go_at_call_of 138 (Value.string (s.extract 11 13)); exact quiet_left (N3.out _)) | (go_at_call_of 138 (Value.string (s.extract 14 16)); exact quiet_left (N4.out _))))
              have hb1 := below_drewN hb0 nq
              have hl1 := hgl.below (below_drewN (Below.refl _ _) nq)
              generalize wx.drewN nq = wy at *
              go_wp2
              go_big_quiet ((first | (go_at_call_of 138 (Value.string (s.extract 0 4)); exact quiet_left (N0.out _)) | (go_at_call_of 138 (Value.string (s.extract 5 7)); exact quiet_left (N1.out _)) | (go_at_call_of 138 (Value.string (s.extract 8 10)); exact quiet_left (N2.out _)) | (go_at_call 139; exact quiet_left (HDy.out _ (hl1.below (below_drewN (Below.refl _ _) _))))))
              have hb2 := below_drewN hb1 nq
              generalize wy.drewN nq = wz at *
              go_wp2
              go_ret2
              exact ⟨TimeRes_err HE.out (by decide) _, hb2⟩
          · have HE := hide (show timeS (bs s) = .ok (N * 1440 + hour * 60 + minute) by rw [HV.out]; exact if_neg hbad)
            have c : decide (23 < hour) = false ∧ decide (59 < minute) = false ∧ decide (575999999 < N * 1440 + hour * 60 + minute) = false := by simp; omega
            obtain ⟨c, c', c''⟩ := c
            clear hbad
            go_wp2
            go_big_quiet ((first | (go_at_call_of 138 (Value.string (s.extract 11 13)); exact quiet_left (N3.out _)) | (go_at_call_of 138 (Value.string (s.extract 14 16)); exact quiet_left (N4.out _))))
            have hb1 := below_drewN hb0 nq
            have hl1 := hgl.below (below_drewN (Below.refl _ _) nq)
            generalize wx.drewN nq = wy at *
            go_wp2
            go_big_quiet ((first | (go_at_call_of 138 (Value.string (s.extract 0 4)); exact quiet_left (N0.out _)) | (go_at_call_of 138 (Value.string (s.extract 5 7)); exact quiet_left (N1.out _)) | (go_at_call_of 138 (Value.string (s.extract 8 10)); exact quiet_left (N2.out _)) | (go_at_call 139; exact quiet_left (HDy.out _ (hl1.below (below_drewN (Below.refl _ _) _))))))
            have hb2 := below_drewN hb1 nq
            generalize wy.drewN nq = wz at *
            go_wp2
            go_ret2
            exact ⟨TimeRes_ok HE.out rfl, hb2⟩
  · have a16 : ((s.size : Int) != 16) = true := by simp; omega
    have HE := hide (show timeS (bs s) = .error 3 by
      rw [HT.out, if_pos]
      cases hb : fitB timeForm (bs s)
      · rfl
      · exact absurd (fit_dig hb).1 h16)
    clear h16
    go_enter Tryz.func114, Tryz.ntmps114
    go_wp2
    go_ret2
    exact ⟨TimeRes_err HE.out (by decide) _, Below.refl _ _⟩

end Go.Proofs.YtlfedcbihbigoaaGreatDoor

namespace Go.Proofs.YtlfedcbihbigoaaGreatDoor
open Go.RowKit

theorem OneRes_shape {r : Except Int (Tok × Nat)} {e : Ending} (h : OneRes r e) : ∃ (t : Tok) (n c : Int), e = .returned (.tuple #[t.agg, .int .i64 n, .int .i64 c]) := by
  unfold OneRes at h
  split at h
  · exact ⟨_, _, _, h⟩
  · obtain ⟨_, t, n, h⟩ := h; exact ⟨t, n, _, h⟩
theorem TimeRes_shape {r : Except Int Int} {e : Ending} (h : TimeRes r e) : ∃ (n c : Int), e = .returned (.tuple #[.int .i64 n, .int .i64 c]) := by
  unfold TimeRes at h
  split at h
  · exact ⟨_, _, h⟩
  · obtain ⟨_, n, h⟩ := h; exact ⟨n, _, h⟩
theorem oneS_eq (s : ByteArray) (h : 0 < s.size) : oneS (bs s) = if letB s[0] = true then nameS (bs s) else if digB s[0] = true then intS (bs s) else if s[0].toNat = 39 then litS (bs s) else if s[0].toNat = 64 then atS (bs s) else symS (bs s) := by
  have e : bs s = s[0] :: (bs s).drop 1 := by have := drop_cons s 0 h; simpa using this
  generalize hl : bs s = l at *
  cases l with
  | nil => cases e
  | cons c r =>
    have : c = s[0] := (List.cons.inj e).1
    subst this
    rfl
theorem box4 {w w1 : World} {a b c d : Value} {t : TypeId} (h : Below (w.heap.size + 1) (w.alloc (.cells #[a, b, c, d] t)) w1) :
    w1.cell? ⟨w.heap.size, 0, none⟩ = some a ∧ w1.cell? ⟨w.heap.size, 1, none⟩ = some b ∧ w1.cell? ⟨w.heap.size, 2, none⟩ = some c ∧ w1.cell? ⟨w.heap.size, 3, none⟩ = some d ∧
    (w1.frozen? ⟨w.heap.size, 0, none⟩ = false ∧ w1.frozen? ⟨w.heap.size, 1, none⟩ = false ∧ w1.frozen? ⟨w.heap.size, 2, none⟩ = false ∧ w1.frozen? ⟨w.heap.size, 3, none⟩ = false) ∧ w.heap.size < w1.heap.size ∧ Below w.heap.size w w1 := by
  have hheap := heap_of_below h (Nat.lt_succ_self _)
  exact ⟨cell_of_heap hheap 0, cell_of_heap hheap 1, cell_of_heap hheap 2, cell_of_heap hheap 3, ⟨free_of_heap hheap 0, free_of_heap hheap 1, free_of_heap hheap 2, free_of_heap hheap 3⟩, lt_of_heap hheap,
    ((Below.refl _ _).alloc (Nat.le_refl _) _).trans (h.mono (Nat.le_succ _))⟩

/-! ### strings.HasPrefix -/
theorem prefix_iff (p s : ByteArray) : (bs p).isPrefixOf (bs s) = true ↔ p.size ≤ s.size ∧ s.extract 0 p.size = p := by
  rw [List.isPrefixOf_iff_prefix, List.prefix_iff_eq_take]
  constructor
  · intro h
    have hl : p.size ≤ s.size := by
      have := congrArg List.length h
      rw [List.length_take, bs_length, bs_length] at this
      omega
    refine ⟨hl, bs_inj ?_⟩
    rw [bs_extract, List.drop_zero]
    exact h.symm
  · rintro ⟨_, h⟩
    conv => lhs; rw [← h]
    rw [bs_extract, List.drop_zero]
    rfl

set_option maxHeartbeats 1000000 in
theorem hasPrefix_any (s p : ByteArray) (w : World) (hs : s.size ≤ maxLen) : Calls Tryz.prog 115 #[.string s, .string p] w fun e w' => e = .returned (.bool ((bs p).isPrefixOf (bs s))) ∧ w = w' := by
  unfold maxLen at hs
  have hi := prefix_iff p s
  by_cases h1 : p.size ≤ s.size
  · have a1 : decide ((p.size : Int) ≤ (s.size : Int)) = true := by simp; omega
    have H := hide hi; clear hi
    go_enter Tryz.func115, Tryz.ntmps115
    go_wp2
    go_ret
    refine ⟨ret_bool ?_, rfl⟩
    rw [Bool.eq_iff_iff, H.out]
    simp only [Array.getD, beq_iff_eq]
    show (s.extract 0 p.size).toList = p.toList ↔ _
    rw [ByteArray.toList_eq, ByteArray.toList_eq]
    exact ⟨fun h => ⟨h1, bs_inj h⟩, fun h => congrArg bs h.2⟩
  · have a1 : decide ((p.size : Int) ≤ (s.size : Int)) = false := by simp; omega
    have H := hide (show (bs p).isPrefixOf (bs s) = false by
      cases h : (bs p).isPrefixOf (bs s)
      · rfl
      · exact absurd (hi.1 h).1 h1)
    clear hi
    go_enter Tryz.func115, Tryz.ntmps115
    go_wp2
    go_ret
    exact ⟨ret_bool (by rw [H.out]), rfl⟩

theorem symS_hit {l x : Bytes} {k : Nat} (hk : k < symbolsS.length) (hn : ∀ j, j < k → (symbolsS.getD j []).isPrefixOf l = false) (hx : symbolsS.getD k [] = x) (h : x.isPrefixOf l = true) : symS l = .ok (⟨5, x, 0, 0⟩, x.length) := by
  have : symbolsS.find? (fun x => x.isPrefixOf l) = some x := by
    rw [List.find?_eq_some_iff_getElem]
    refine ⟨h, k, hk, ?_, fun j hj => ?_⟩
    · rw [← hx, List.getD, List.getElem?_eq_getElem hk]; rfl
    · have := hn j hj
      rw [List.getD, List.getElem?_eq_getElem (Nat.lt_trans hj hk)] at this
      simpa using this
  unfold symS; rw [this]
theorem symS_none {l : Bytes} (hn : ∀ j, j < symbolsS.length → (symbolsS.getD j []).isPrefixOf l = false) : symS l = .error 3 := by
  have : symbolsS.find? (fun x => x.isPrefixOf l) = none := by
    rw [List.find?_eq_none]
    intro x hx
    obtain ⟨j, hj, e⟩ := List.mem_iff_getElem.1 hx
    have := hn j hj
    rw [List.getD, List.getElem?_eq_getElem hj, Option.getD_some, e] at this
    simp [this]
  unfold symS; rw [this]

theorem TimeRes_at {l : Bytes} (h17 : ¬ l.length < 17) {n c : Int} (h : TimeRes (timeS ((l.take 17).drop 1)) (.returned (.tuple #[.int .i64 n, .int .i64 c]))) :
    OneRes (atS l) (.returned (.tuple #[.agg #[.int .i64 4, str [], .int .i64 n, .int .i64 0], .int .i64 17, .int .i64 c])) := by
  unfold atS
  rw [if_neg h17]
  cases ht : timeS ((l.take 17).drop 1) with
  | error e =>
    rw [ht] at h
    obtain ⟨h1, m, h2⟩ := h
    injection h2 with h2; injection h2 with h2; injection h2 with h2
    simp at h2
    obtain ⟨rfl, rfl⟩ := h2
    exact ⟨h1, ⟨4, [], n, 0⟩, 17, rfl⟩
  | ok m =>
    rw [ht] at h
    have h2 : Ending.returned (.tuple #[.int .i64 n, .int .i64 c]) = .returned (.tuple #[.int .i64 m, .int .i64 0]) := h
    injection h2 with h2; injection h2 with h2; injection h2 with h2
    simp at h2
    obtain ⟨rfl, rfl⟩ := h2
    rfl

set_option maxRecDepth 100000 in
set_option maxHeartbeats 4000000 in
theorem token_one_any (s : ByteArray) (w : World) (hG : Glob w) (hs : s.size ≤ 65536) (h0 : 0 < s.size) :
    Calls Tryz.prog 76 #[.string s] w fun e w' => OneRes (oneS (bs s)) e ∧ Below w.heap.size w w' := by
  have HG := hide hG; clear hG
  have hr := oneS_eq s h0
  have hsm : s.size ≤ maxLen := by unfold maxLen; omega
  have hsm' : s.size ≤ 140737488355328 := by omega
  by_cases c1 : letB s[0] = true
  · have H := hide (show oneS (bs s) = nameS (bs s) by rw [hr, if_pos c1])
    clear hr
    go_enter Tryz.func76, Tryz.ntmps76
    go_wp2_with (first
      | (go_at_call 109; refine (token_letter_any _ _).mono ?_; rintro e w' ⟨rfl, rfl⟩))
    refine (token_name_any _ _ hsm).mono ?_
    rintro e w1 ⟨hres, hb⟩
    obtain ⟨t, n, c, rfl⟩ := OneRes_shape hres
    have HR := hide hres; clear hres
    obtain ⟨k0, k1, k2, k3, ⟨f0, f1, f2, f3⟩, hz, hb0⟩ := box4 (by simpa using hb)
    clear hb
    go_wp2
    refine bodyPost_ret (v := .tuple #[t.agg, .int .i64 n, .int .i64 c]) (by simp [results, Tryz.results76, go_sem, k0, k1, k2, k3]) rfl ⟨by rw [H.out]; exact HR.out, ?_⟩
    (repeat (first | exact Below.refl _ _ | assumption | refine Below.drew ?_ | refine below_drewN ?_ _ | refine Below.alloc ?_ (by first | omega | simp <;> omega) _ | refine Below.setCell ?_ (by first | omega | simp <;> omega) _))
  rw [if_neg c1] at hr
  have c1' : letB s[0] = false := by simpa using c1
  clear c1
  by_cases c2 : digB s[0] = true
  · have H := hide (show oneS (bs s) = intS (bs s) by rw [hr, if_pos c2])
    clear hr
    go_enter Tryz.func76, Tryz.ntmps76
    go_wp2_with (first
      | (go_at_call 109; refine (token_letter_any _ _).mono ?_; rintro e w' ⟨rfl, rfl⟩)
      | (go_at_call 111; refine (token_digit_any _ _).mono ?_; rintro e w' ⟨rfl, rfl⟩))
    refine (token_integer_any _ _ hsm h0).mono ?_
    rintro e w1 ⟨hres, hb⟩
    obtain ⟨t, n, c, rfl⟩ := OneRes_shape hres
    have HR := hide hres; clear hres
    obtain ⟨k0, k1, k2, k3, ⟨f0, f1, f2, f3⟩, hz, hb0⟩ := box4 (by simpa using hb)
    clear hb
    go_wp2
    refine bodyPost_ret (v := .tuple #[t.agg, .int .i64 n, .int .i64 c]) (by simp [results, Tryz.results76, go_sem, k0, k1, k2, k3]) rfl ⟨by rw [H.out]; exact HR.out, ?_⟩
    (repeat (first | exact Below.refl _ _ | assumption | refine Below.drew ?_ | refine below_drewN ?_ _ | refine Below.alloc ?_ (by first | omega | simp <;> omega) _ | refine Below.setCell ?_ (by first | omega | simp <;> omega) _))
  rw [if_neg c2] at hr
  have c2' : digB s[0] = false := by simpa using c2
  clear c2
  by_cases c3 : s[0].toNat = 39
  · have H := hide (show oneS (bs s) = litS (bs s) by rw [hr, if_pos c3])
    have c3' : ((s[0].toNat : Int) == 39) = true := by simp; omega
    clear hr c3
    go_enter Tryz.func76, Tryz.ntmps76
    go_wp2_with (first
      | (go_at_call 109; refine (token_letter_any _ _).mono ?_; rintro e w' ⟨rfl, rfl⟩)
      | (go_at_call 111; refine (token_digit_any _ _).mono ?_; rintro e w' ⟨rfl, rfl⟩))
    refine (token_literal_any _ _ hsm' h0).mono ?_
    rintro e w1 ⟨hres, hb⟩
    obtain ⟨t, n, c, rfl⟩ := OneRes_shape hres
    have HR := hide hres; clear hres
    obtain ⟨k0, k1, k2, k3, ⟨f0, f1, f2, f3⟩, hz, hb0⟩ := box4 (by simpa using hb)
    clear hb
    go_wp2
    refine bodyPost_ret (v := .tuple #[t.agg, .int .i64 n, .int .i64 c]) (by simp [results, Tryz.results76, go_sem, k0, k1, k2, k3]) rfl ⟨by rw [H.out]; exact HR.out, ?_⟩
    (repeat (first | exact Below.refl _ _ | assumption | refine Below.drew ?_ | refine below_drewN ?_ _ | refine Below.alloc ?_ (by first | omega | simp <;> omega) _ | refine Below.setCell ?_ (by first | omega | simp <;> omega) _))
  rw [if_neg c3] at hr
  have c3' : ((s[0].toNat : Int) == 39) = false := by simp; omega
  clear c3
  by_cases c4 : s[0].toNat = 64
  · have c4' : ((s[0].toNat : Int) == 64) = true := by simp; omega
    have H := hide (show oneS (bs s) = atS (bs s) by rw [hr, if_pos c4])
    clear hr c4
    by_cases h17 : s.size < 17
    · have HE := hide (show oneS (bs s) = .error 3 by rw [H.out, atS, if_pos (by rw [bs_length]; exact h17)])
      go_enter Tryz.func76, Tryz.ntmps76
      go_wp2_with (first
        | (go_at_call 109; refine (token_letter_any _ _).mono ?_; rintro e w' ⟨rfl, rfl⟩)
        | (go_at_call 111; refine (token_digit_any _ _).mono ?_; rintro e w' ⟨rfl, rfl⟩))
      refine bodyPost_ret (v := .tuple #[.agg #[.int .i64 0, str [], .int .i64 0, .int .i64 0], .int .i64 0, .int .i64 3]) (by simp [results, Tryz.results76, go_sem]) rfl ⟨OneRes_err HE.out (by decide) _ _ _ _ _, ?_⟩
      (repeat (first | exact Below.refl _ _ | assumption | refine Below.drew ?_ | refine below_drewN ?_ _ | refine Below.alloc ?_ (by first | omega | simp <;> omega) _ | refine Below.setCell ?_ (by first | omega | simp <;> omega) _))
    · go_enter Tryz.func76, Tryz.ntmps76
      go_wp2_with (first
        | (go_at_call 109; refine (token_letter_any _ _).mono ?_; rintro e w' ⟨rfl, rfl⟩)
        | (go_at_call 111; refine (token_digit_any _ _).mono ?_; rintro e w' ⟨rfl, rfl⟩))
      refine (civil_Parse_any _ _ (HG.out.lens.below ((Below.refl _ _).alloc (Nat.le_refl _) _)) (by unfold maxLen; simp; omega)).mono ?_
      rintro e w1 ⟨hres, hb⟩
      obtain ⟨n, c, rfl⟩ := TimeRes_shape hres
      rw [bs_extract] at hres
      have HR := hide (TimeRes_at (by rw [bs_length]; exact h17) hres); clear hres
      obtain ⟨k0, k1, k2, k3, ⟨f0, f1, f2, f3⟩, hz, hb0⟩ := box4 (by simpa using hb)
      clear hb
      go_wp2
      refine bodyPost_ret (v := .tuple #[.agg #[.int .i64 4, str [], .int .i64 n, .int .i64 0], .int .i64 17, .int .i64 c]) (by simp [results, Tryz.results76, go_sem, k0, k1, k2, k3]) rfl ⟨by rw [H.out]; exact HR.out, ?_⟩
      (repeat (first | exact Below.refl _ _ | assumption | refine Below.drew ?_ | refine below_drewN ?_ _ | refine Below.alloc ?_ (by first | omega | simp <;> omega) _ | refine Below.setCell ?_ (by first | omega | simp <;> omega) _))
  rw [if_neg c4] at hr
  have c4' : ((s[0].toNat : Int) == 64) = false := by simp; omega
  have H := hide hr
  clear c4 hr
  obtain ⟨hg, b, off, cp, hb, hv, hcells⟩ := HG.out.syms
  have hl18 : symbolsS.length = 18 := rfl
  rw [hl18] at hv hcells
  have HC := hide hcells; clear hcells hl18
  go_enter Tryz.func76, Tryz.ntmps76
  go_wp2_with (first
    | (go_at_call 109; refine (token_letter_any _ _).mono ?_; rintro e w' ⟨rfl, rfl⟩)
    | (go_at_call 111; refine (token_digit_any _ _).mono ?_; rintro e w' ⟨rfl, rfl⟩))
  go_loop [54] (fun i => ∃ k : Nat, k ≤ 18 ∧ i = .int .i64 k ∧ Hid (∀ j, j < k → (symbolsS.getD j []).isPrefixOf (bs s) = false)) (fun i => 18 - (intOf i).toNat)
  case atStart => exact ⟨0, by omega, rfl, fun j h => absurd h (Nat.not_lt_zero _)⟩
  case round =>
    obtain ⟨k, hk, rfl, HN⟩ := hrel
    by_cases hlt : k < 18
    · have hx := HC.out k hlt
      generalize hxe : symbolsS.getD k [] = x at *
      have HX := hide hxe; clear hxe
      cases hp : x.isPrefixOf (bs s)
      · have HN' := hide (show ∀ j, j < k + 1 → (symbolsS.getD j []).isPrefixOf (bs s) = false from fun j h => by
          by_cases e : j = k
          · subst e; rw [HX.out]; exact hp
          · exact HN.out j (by omega))
        go_wp2_with (go_at_call 115; refine (hasPrefix_any _ _ _ hsm).mono ?_; rintro e w' ⟨rfl, rfl⟩; rw [bs_mk])
        go_round
        case rel => exact ⟨k + 1, by omega, by go_num, HN'⟩
        case measure => simp [intOf]; omega
      · have HE := hide (show oneS (bs s) = .ok (⟨5, x, 0, 0⟩, x.length) by rw [H.out]; exact symS_hit (show k < symbolsS.length from hlt) HN.out HX.out hp)
        go_wp2_with (go_at_call 115; refine (hasPrefix_any _ _ _ hsm).mono ?_; rintro e w' ⟨rfl, rfl⟩; rw [bs_mk])
        refine bodyPost_ret (v := .tuple #[.agg #[.int .i64 5, str x, .int .i64 0, .int .i64 0], .int .i64 x.length, .int .i64 0]) (by simp [results, Tryz.results76, go_sem]) rfl ⟨OneRes_ok HE.out rfl rfl, ?_⟩
        (repeat (first | exact Below.refl _ _ | assumption | refine Below.drew ?_ | refine below_drewN ?_ _ | refine Below.alloc ?_ (by first | omega | simp <;> omega) _ | refine Below.setCell ?_ (by first | omega | simp <;> omega) _))
    · obtain rfl : k = 18 := by omega
      have HE := hide (show oneS (bs s) = .error 3 by rw [H.out]; exact symS_none HN.out)
      go_wp2
      refine bodyPost_ret (v := .tuple #[.agg #[.int .i64 0, str [], .int .i64 0, .int .i64 0], .int .i64 0, .int .i64 3]) (by simp [results, Tryz.results76, go_sem]) rfl ⟨OneRes_err HE.out (by decide) _ _ _ _ _, ?_⟩
      (repeat (first | exact Below.refl _ _ | assumption | refine Below.drew ?_ | refine below_drewN ?_ _ | refine Below.alloc ?_ (by first | omega | simp <;> omega) _ | refine Below.setCell ?_ (by first | omega | simp <;> omega) _))

end Go.Proofs.YtlfedcbihbigoaaGreatDoor
