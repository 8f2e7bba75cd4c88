/- The law TokenRoundTrips, walked. -/
import Derived.Test.YtedjahbieheeoaaDoorLawH
import Derived.Test.YtedjahbieheeoaaDoorRv
set_option linter.unusedVariables false
set_option linter.unusedSimpArgs false
namespace Go.Proofs.YtedjahbieheeoaaDoor
open Go.RowKit
theorem maxLen_big : 1000000 ≤ maxLen := by decide
theorem timeS_err {l : Bytes} {e : Int} (h : timeS l = .error e) : e ≠ 0 := by
  unfold timeS at h
  split at h
  · injection h with h; subst h; decide
  split at h
  · injection h with h; subst h; decide
  split at h
  · injection h with h; subst h; decide
  · cases h
theorem oneS_err {l : Bytes} {e : Int} (h : oneS l = .error e) : e ≠ 0 := by
  cases l with
  | nil => injection h with h; subst h; decide
  | cons c r =>
    rw [oneS_cons] at h
    split at h
    · unfold nameS at h
      split at h
      · injection h with h; subst h; decide
      split at h
      · split at h
        · injection h with h; subst h; decide
        · cases h
      · cases h
    split at h
    · rw [intS_eq] at h
      split at h
      · injection h with h; subst h; decide
      split at h
      · injection h with h; subst h; decide
      · cases h
    split at h
    · unfold litS at h
      split at h
      · injection h with h; subst h; decide
      · split at h
        · injection h with h; subst h; decide
        · cases h
    split at h
    · unfold atS at h
      split at h
      · injection h with h; subst h; decide
      split at h
      · rename_i e2 he
        injection h with h; subst h; exact timeS_err he
      · cases h
    · unfold symS at h
      split at h
      · cases h
      · injection h with h; subst h; decide
theorem splitGo_err : ∀ (f : Nat) (l : Bytes) (i : Nat) (x : Nat × Int), splitGo f l i = .error x → x.2 ≠ 0
  | 0, l, i, x, h => by cases h
  | f + 1, [], i, x, h => by cases h
  | f + 1, c :: r, i, x, h => by
    rw [splitGo_cons] at h
    split at h
    · exact splitGo_err f _ _ _ h
    · split at h
      · exact splitGo_err f _ _ _ h
      · split at h
        · rename_i e he
          injection h with h
          subst h
          exact oneS_err he
        · split at h
          · rename_i y hy
            injection h with h
            subst h
            exact splitGo_err f _ _ _ hy
          · cases h
theorem splitS_err {l : Bytes} {x : Nat × Int} (h : splitS l = .error x) : x.2 ≠ 0 := by
  unfold splitS at h
  split at h
  · injection h with h; subst h; decide
  · exact splitGo_err _ _ _ _ h
/-- What the second half of the law needs of a text: an error, or tokens that join to a text of the same tokens. -/
theorem splitS_good {l : Bytes} {ts : List Tok} (hl : l.length ≤ 500) (h : splitS l = .ok ts) : valT ts = true ∧ ts.length ≤ 501 ∧ joinR ts = (joinS ts, 0) ∧ (joinS ts).length ≤ 65536 ∧ ∃ zs, splitS (joinS ts) = .ok zs ∧ zs.length ≤ 65537 ∧ sameL ts zs = true := by
  have hv := splitS_fine h
  have hn := splitS_len h
  have hj := joinS_short (m := 500) hv (by omega)
  obtain ⟨zs, hz, hs⟩ := splitS_back hv (by omega)
  exact ⟨hv, by omega, joinR_fine hv (by omega), by omega, zs, hz, splitS_count hz, by rw [sameL_comm]; exact hs⟩
set_option maxRecDepth 100000 in
set_option maxHeartbeats 8000000 in
theorem law7_TokenRoundTrips_any (A : Option Addr) (l : List Int) (c : Nat) (s : ByteArray) (n : Int) (w : World) (hG : GlobJ w) (hI : IntsAt w A l) (hs : s.size ≤ maxLen) :
    Calls Tryd.prog 8 #[.slice A l.length c, .string s, .int .i64 n] w fun e w' => e = .returned (.bool true) ∧ Below w.heap.size w w' := by
  have HG := hide hG; clear hG
  have HI := hide hI; clear hI
  by_cases hlen : 500 < s.size
  · clear hs
    go_enter Tryd.func8, Tryd.ntmps8
    go_wp2_with fail
    refine (law7_known_any _ HG.out.glob).mono ?_
    rintro e w' ⟨rfl, hb⟩
    go_wp2
    go_ret
    exact ⟨rfl, hb⟩
  have hm := and_15 n
  obtain ⟨k, hk⟩ : ∃ k : Nat, n % 16 = k := ⟨(n % 16).toNat, by omega⟩
  have hk16 : k ≤ 15 := by omega
  rw [hk] at hm
  clear hk
  have HTok := hide (fun (W : World) (hb0 : Below w.heap.size w W) => law7_tokens_any A l c k W (HI.out.below hb0) hk16)
  unfold TokensRes at HTok
  have hl := tokensS_len l k
  have hsh := tokensS_short l k
  rw [← hl] at HTok
  generalize tokensS l k = ts at *
  have hl17 : ts.length ≤ 16 := by omega
  have HJ := hide (fun (W : World) (T : Option Addr) (tc : Nat) (hb0 : Below w.heap.size w W) (hta : ToksAt W T ts) (hc : ts.length ≤ tc) => token_Join_any T ts tc W (HG.out.below hb0) hta (by omega) hc (short_le hsh))
  have HVal := hide (fun (W : World) (T : Option Addr) (tc : Nat) (hb0 : Below w.heap.size w W) (hta : ToksAt W T ts) => token_Validate_any T ts tc W (HG.out.below hb0).glob hta (by omega) (short_le hsh))
  have HSp := hide (fun (W : World) (hb0 : Below w.heap.size w W) => token_Split_any s W (HG.out.below hb0).glob hs)
  have HL := hide (show (bs s).length ≤ 500 by rw [bs_length]; omega)
  clear hl hsh
  cases hv : valT ts
  · have HR := hide (joinR_bad hv)
    have HE := hide (show valE ts = 8 by unfold valE; rw [hv]; rfl)
    rw [HR.out] at HJ
    rw [HE.out] at HVal
    clear HR HE hv
    cases hsp : splitS (bs s) with
    | error x =>
      have HX := hide (splitS_err hsp)
      have hne : ((x.2 : Int) != 0) = true := by simpa using HX.out
      rw [hsp] at HSp
      clear HX hsp
      go_enter Tryd.func8, Tryd.ntmps8
      go_wp2_with fail
      refine (HTok.out _ (Below.refl _ _)).mono ?_
      rintro e w1 ⟨⟨T, tc, rfl, ht, hc⟩, hb1⟩
      go_wp2_with fail
      refine (HJ.out _ T tc hb1 ht hc).mono ?_
      rintro e w2 ⟨rfl, hb2⟩
      have hc2 := below_st hb2 hb1
      go_wp2_with fail
      refine (HVal.out _ T tc hc2 (ht.below hb2)).mono ?_
      rintro e w3 ⟨rfl, hb3⟩
      have hc3 := below_st hb3 hc2
      go_wp2_with fail
      refine (HSp.out _ hc3).mono ?_
      rintro e w4 ⟨hres, hb4⟩
      obtain rfl : e = _ := hres
      have hc4 := below_st hb4 hc3
      go_wp2_with fail
      refine (law7_known_any _ (HG.out.below hc4).glob).mono ?_
      rintro e w5 ⟨rfl, hb5⟩
      go_wp2
      go_ret
      exact ⟨rfl, below_st hb5 hc4⟩
    | ok ys =>
      obtain ⟨y1, y2, y3, y4, us, y5, y6, y7⟩ := splitS_good HL.out hsp
      have hyl : ys.length ≤ 1000000 := by omega
      have hul : us.length ≤ 1000000 := by omega
      have Y4 := hide y4
      have HYS := hide (show ∀ j (h : j < ys.length), ys[j].text.length ≤ maxLen from fun j h => by
        have h1 := okTok_len (((valT_iff ys).1 y1).2 j h).1
        have h2 : (100 : Nat) ≤ maxLen := by decide
        omega)
      have HYJ := hide (fun (W : World) (T : Option Addr) (tc : Nat) (hb0 : Below w.heap.size w W) (hta : ToksAt W T ys) (hc : ys.length ≤ tc) => token_Join_any T ys tc W (HG.out.below hb0) hta hyl hc HYS.out)
      rw [y3] at HYJ
      have HYV := hide (fun (W : World) (T : Option Addr) (tc : Nat) (hb0 : Below w.heap.size w W) (hta : ToksAt W T ys) => token_Validate_any T ys tc W (HG.out.below hb0).glob hta hyl HYS.out)
      rw [show valE ys = 0 by unfold valE; rw [y1]; rfl] at HYV
      have HS2 := hide (fun (W : World) (hb0 : Below w.heap.size w W) => token_Split_any ⟨(joinS ys).toArray⟩ W (HG.out.below hb0).glob (show (joinS ys).length ≤ maxLen from Nat.le_trans (m := 1000000) (Nat.le_trans Y4.out (by decide)) maxLen_big))
      rw [show splitS (bs ⟨(joinS ys).toArray⟩) = .ok us from y5] at HS2
      have HSm2 := hide (fun (W : World) (B C : Option Addr) (bc cc : Nat) (hB : ToksAt W B ys) (hC : ToksAt W C us) => ref7_Same_any B C ys us bc cc W hB hC hyl hul)
      rw [y7] at HSm2
      rw [hsp] at HSp
      clear y1 y2 y3 y4 y5 y6 y7 hsp HYS Y4
      generalize joinS ys = jy at *
      go_enter Tryd.func8, Tryd.ntmps8
      go_wp2_with fail
      refine (HTok.out _ (Below.refl _ _)).mono ?_
      rintro e w1 ⟨⟨T, tc, rfl, ht, hc⟩, hb1⟩
      go_wp2_with fail
      refine (HJ.out _ T tc hb1 ht hc).mono ?_
      rintro e w2 ⟨rfl, hb2⟩
      have hc2 := below_st hb2 hb1
      go_wp2_with fail
      refine (HVal.out _ T tc hc2 (ht.below hb2)).mono ?_
      rintro e w3 ⟨rfl, hb3⟩
      have hc3 := below_st hb3 hc2
      go_wp2_with fail
      refine (HSp.out _ hc3).mono ?_
      rintro e w4 ⟨hres, hb4⟩
      obtain ⟨Y, yc, rfl, howny⟩ := hres
      have hc4 := below_st hb4 hc3
      have hY := ToksAt_of_own howny
      have hycap := own_cap howny
      clear howny
      go_wp2_with fail
      refine (HYJ.out _ Y yc hc4 hY hycap).mono ?_
      rintro e w5 ⟨rfl, hb5⟩
      have hc5 := below_st hb5 hc4
      have hY5 := hY.below hb5
      go_wp2_with fail
      refine (HS2.out _ hc5).mono ?_
      rintro e w6 ⟨hres, hb6⟩
      obtain ⟨Z, zc, rfl, hownz⟩ := hres
      have hc6 := below_st hb6 hc5
      have hZ := ToksAt_of_own hownz
      have hY6 := hY5.below hb6
      clear hownz
      go_wp2_with fail
      refine (HYV.out _ Y yc hc6 hY6).mono ?_
      rintro e w7 ⟨rfl, hb7⟩
      have hc7 := below_st hb7 hc6
      have hY7 := hY6.below hb7
      have hZ7 := hZ.below hb7
      go_wp2_with fail
      refine (HSm2.out _ Y Z yc zc hY7 hZ7).mono ?_
      rintro e w8 ⟨rfl, hb8⟩
      have hc8 := below_st hb8 hc7
      go_wp2_with fail
      refine (law7_known_any _ (HG.out.below hc8).glob).mono ?_
      rintro e w9 ⟨rfl, hb9⟩
      go_wp2
      go_ret
      exact ⟨rfl, below_st hb9 hc8⟩
  · have hj := joinS_short (m := 16) hv (by omega)
    have HR := hide (joinR_fine hv (by omega))
    have HE := hide (show valE ts = 0 by unfold valE; rw [hv]; rfl)
    obtain ⟨zs, hz, hzs⟩ := splitS_back hv (by omega)
    have hzl := splitS_count hz
    have HZ := hide hz
    have HZS := hide hzs
    rw [HR.out] at HJ
    rw [HE.out] at HVal
    clear HR HE hv hz hzs
    have HS1 := hide (fun (W : World) (hb0 : Below w.heap.size w W) => token_Split_any ⟨(joinS ts).toArray⟩ W (HG.out.below hb0).glob (show (joinS ts).length ≤ maxLen from Nat.le_trans (m := 1000000) (by omega) maxLen_big))
    rw [show splitS (bs ⟨(joinS ts).toArray⟩) = .ok zs from HZ.out] at HS1
    have HSm := hide (fun (W : World) (B C : Option Addr) (bc cc : Nat) (hB : ToksAt W B zs) (hC : ToksAt W C ts) => ref7_Same_any B C zs ts bc cc W hB hC (by omega) (by omega))
    rw [HZS.out] at HSm
    generalize joinS ts = jt at *
    cases hsp : splitS (bs s) with
    | error x =>
      have HX := hide (splitS_err hsp)
      have hne : ((x.2 : Int) != 0) = true := by simpa using HX.out
      rw [hsp] at HSp
      clear HX hsp
      go_enter Tryd.func8, Tryd.ntmps8
      go_wp2_with fail
      refine (HTok.out _ (Below.refl _ _)).mono ?_
      rintro e w1 ⟨⟨T, tc, rfl, ht, hc⟩, hb1⟩
      go_wp2_with fail
      refine (HJ.out _ T tc hb1 ht hc).mono ?_
      rintro e w2 ⟨rfl, hb2⟩
      have hc2 := below_st hb2 hb1
      have ht2 := ht.below hb2
      go_wp2_with fail
      refine (HVal.out _ T tc hc2 ht2).mono ?_
      rintro e w21 ⟨rfl, hb21⟩
      have hc21 := below_st hb21 hc2
      have ht21 := ht2.below hb21
      go_wp2_with fail
      refine (HS1.out _ hc21).mono ?_
      rintro e w22 ⟨hres, hb22⟩
      obtain ⟨B, bc, rfl, hown⟩ := hres
      have hc22 := below_st hb22 hc21
      have hB := ToksAt_of_own hown
      have ht22 := ht21.below hb22
      clear hown
      go_wp2_with fail
      refine (HSm.out _ B T bc tc hB ht22).mono ?_
      rintro e w3 ⟨rfl, hb3⟩
      have hc3 := below_st hb3 hc22
      go_wp2_with fail
      refine (HSp.out _ hc3).mono ?_
      rintro e w4 ⟨hres, hb4⟩
      obtain rfl : e = _ := hres
      have hc4 := below_st hb4 hc3
      go_wp2_with fail
      refine (law7_known_any _ (HG.out.below hc4).glob).mono ?_
      rintro e w5 ⟨rfl, hb5⟩
      go_wp2
      go_ret
      exact ⟨rfl, below_st hb5 hc4⟩
    | ok ys =>
      obtain ⟨y1, y2, y3, y4, us, y5, y6, y7⟩ := splitS_good HL.out hsp
      have hyl : ys.length ≤ 1000000 := by omega
      have hul : us.length ≤ 1000000 := by omega
      have Y4 := hide y4
      have HYS := hide (show ∀ j (h : j < ys.length), ys[j].text.length ≤ maxLen from fun j h => by
        have h1 := okTok_len (((valT_iff ys).1 y1).2 j h).1
        have h2 : (100 : Nat) ≤ maxLen := by decide
        omega)
      have HYJ := hide (fun (W : World) (T : Option Addr) (tc : Nat) (hb0 : Below w.heap.size w W) (hta : ToksAt W T ys) (hc : ys.length ≤ tc) => token_Join_any T ys tc W (HG.out.below hb0) hta hyl hc HYS.out)
      rw [y3] at HYJ
      have HYV := hide (fun (W : World) (T : Option Addr) (tc : Nat) (hb0 : Below w.heap.size w W) (hta : ToksAt W T ys) => token_Validate_any T ys tc W (HG.out.below hb0).glob hta hyl HYS.out)
      rw [show valE ys = 0 by unfold valE; rw [y1]; rfl] at HYV
      have HS2 := hide (fun (W : World) (hb0 : Below w.heap.size w W) => token_Split_any ⟨(joinS ys).toArray⟩ W (HG.out.below hb0).glob (show (joinS ys).length ≤ maxLen from Nat.le_trans (m := 1000000) (Nat.le_trans Y4.out (by decide)) maxLen_big))
      rw [show splitS (bs ⟨(joinS ys).toArray⟩) = .ok us from y5] at HS2
      have HSm2 := hide (fun (W : World) (B C : Option Addr) (bc cc : Nat) (hB : ToksAt W B ys) (hC : ToksAt W C us) => ref7_Same_any B C ys us bc cc W hB hC hyl hul)
      rw [y7] at HSm2
      rw [hsp] at HSp
      clear y1 y2 y3 y4 y5 y6 y7 hsp HYS Y4
      generalize joinS ys = jy at *
      go_enter Tryd.func8, Tryd.ntmps8
      go_wp2_with fail
      refine (HTok.out _ (Below.refl _ _)).mono ?_
      rintro e w1 ⟨⟨T, tc, rfl, ht, hc⟩, hb1⟩
      go_wp2_with fail
      refine (HJ.out _ T tc hb1 ht hc).mono ?_
      rintro e w2 ⟨rfl, hb2⟩
      have hc2 := below_st hb2 hb1
      have ht2 := ht.below hb2
      go_wp2_with fail
      refine (HVal.out _ T tc hc2 ht2).mono ?_
      rintro e w21 ⟨rfl, hb21⟩
      have hc21 := below_st hb21 hc2
      have ht21 := ht2.below hb21
      go_wp2_with fail
      refine (HS1.out _ hc21).mono ?_
      rintro e w22 ⟨hres, hb22⟩
      obtain ⟨B, bc, rfl, hown⟩ := hres
      have hc22 := below_st hb22 hc21
      have hB := ToksAt_of_own hown
      have ht22 := ht21.below hb22
      clear hown
      go_wp2_with fail
      refine (HSm.out _ B T bc tc hB ht22).mono ?_
      rintro e w3 ⟨rfl, hb3⟩
      have hc3 := below_st hb3 hc22
      go_wp2_with fail
      refine (HSp.out _ hc3).mono ?_
      rintro e w4 ⟨hres, hb4⟩
      obtain ⟨Y, yc, rfl, howny⟩ := hres
      have hc4 := below_st hb4 hc3
      have hY := ToksAt_of_own howny
      have hycap := own_cap howny
      clear howny
      go_wp2_with fail
      refine (HYJ.out _ Y yc hc4 hY hycap).mono ?_
      rintro e w5 ⟨rfl, hb5⟩
      have hc5 := below_st hb5 hc4
      have hY5 := hY.below hb5
      go_wp2_with fail
      refine (HS2.out _ hc5).mono ?_
      rintro e w6 ⟨hres, hb6⟩
      obtain ⟨Z, zc, rfl, hownz⟩ := hres
      have hc6 := below_st hb6 hc5
      have hZ := ToksAt_of_own hownz
      have hY6 := hY5.below hb6
      clear hownz
      go_wp2_with fail
      refine (HYV.out _ Y yc hc6 hY6).mono ?_
      rintro e w7 ⟨rfl, hb7⟩
      have hc7 := below_st hb7 hc6
      have hY7 := hY6.below hb7
      have hZ7 := hZ.below hb7
      go_wp2_with fail
      refine (HSm2.out _ Y Z yc zc hY7 hZ7).mono ?_
      rintro e w8 ⟨rfl, hb8⟩
      have hc8 := below_st hb8 hc7
      go_wp2_with fail
      refine (law7_known_any _ (HG.out.below hc8).glob).mono ?_
      rintro e w9 ⟨rfl, hb9⟩
      go_wp2
      go_ret
      exact ⟨rfl, below_st hb9 hc8⟩
end Go.Proofs.YtedjahbieheeoaaDoor
