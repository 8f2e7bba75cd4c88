/- Plain: the text of a list of tokens. Contracts: ref7.written, ref7.Join. Plain: replacing each apostrophe by two; what token.Join asks of the world. -/
import Derived.Test.YtedjahbieheeoaaDoorValF
import Derived.Test.YtedjahbieheeoaaDoorDigB
import Derived.Test.YtedjahbieheeoaaDoorPutA
import Derived.Test.YtedjahbieheeoaaDoorShelf
set_option linter.unusedVariables false
set_option linter.unusedSimpArgs false
namespace Go.Proofs.YtedjahbieheeoaaDoor
open Go.RowKit
noncomputable def writtenS (k : Int) (x : Bytes) (n : Int) : Bytes := if k = 2 then Lib.decDigits n.toNat else if k = 3 then quoteS x else if k = 4 then 64 :: fmtS n else x
noncomputable def Tok.written (t : Tok) : Bytes := writtenS t.kind t.text t.num
noncomputable def joinS (ts : List Tok) : Bytes := List.intercalate [32] (ts.dropLast.map Tok.written)
noncomputable def joinR (ts : List Tok) : Bytes × Int := if valT ts = true then (if 65536 < (joinS ts).length then ([], 2) else (joinS ts, 0)) else ([], 8)
theorem isNameB_len {m : Nat} {l : Bytes} (h : isNameB m l = true) : l.length ≤ m := by
  unfold isNameB at h
  simp at h
  exact h.1
theorem isQualB_len {l : Bytes} (h : isQualB 24 l = true) : l.length ≤ 49 := by
  unfold isQualB at h
  split at h
  · simp at h
    have h1 := isNameB_len h.1
    have h2 := isNameB_len h.2
    rw [List.length_take] at h1
    rw [List.length_drop] at h2
    omega
  · have := isNameB_len h; omega
theorem okTok_cases {k n : Int} {x : Bytes} (h : okTok k x n = true) : (k = 0 ∧ x = [] ∧ n = 0) ∨ (k = 1 ∧ isQualB 24 x = true ∧ n = 0) ∨ (k = 2 ∧ x = [] ∧ 0 ≤ n ∧ n ≤ 1073741824) ∨ (k = 3 ∧ x.length ≤ 64 ∧ n = 0) ∨ (k = 4 ∧ x = [] ∧ 0 ≤ n ∧ n ≤ 575999999) ∨ (k = 5 ∧ symB x = true ∧ n = 0) := by
  unfold okTok at h
  split at h
  · simp_all
  split at h
  · simp_all
  split at h
  · simp_all
  split at h
  · simp_all
  split at h
  · simp_all
  split at h
  · simp_all
  · cases h
theorem symB_len {x : Bytes} (h : symB x = true) : x.length ≤ 2 ∧ x ≠ [] := by
  unfold symB at h
  rw [List.contains_iff_mem] at h
  have : ∀ x ∈ symbolsS, x.length ≤ 2 ∧ x ≠ [] := by decide
  exact this x h
theorem okTok_len {k n : Int} {x : Bytes} (h : okTok k x n = true) : x.length ≤ 64 := by
  rcases okTok_cases h with ⟨_, rfl, _⟩ | ⟨_, h2, _⟩ | ⟨_, rfl, _⟩ | ⟨_, h2, _⟩ | ⟨_, rfl, _⟩ | ⟨_, h2, _⟩
  · simp
  · have := isQualB_len h2; omega
  · simp
  · exact h2
  · simp
  · have := (symB_len h2).1; omega
theorem decDigits_le {n : Nat} (h : n ≤ 1073741824) : (Lib.decDigits n).length ≤ 100 := by
  have : ∀ (f u : Nat), u < 10 ^ (f + 1) → (Lib.decDigits u).length ≤ f + 1
    := by
    intro f
    induction f with
    | zero => intro u hu; rw [Lib.decDigits_one (by omega)]; simp
    | succ f ih =>
      intro u hu
      by_cases h10 : u < 10
      · rw [Lib.decDigits_one h10]; simp
      · rw [decDigits_rec u h10, List.length_append]
        have := ih (u / 10) (by rw [Nat.pow_succ] at hu; omega)
        simp; omega
  have := this 9 n (by omega)
  omega
theorem written_len {k n : Int} {x : Bytes} (h : okTok k x n = true) : (writtenS k x n).length ≤ 130 := by
  have hl := okTok_len h
  unfold writtenS
  rcases okTok_cases h with ⟨rfl, rfl, _⟩ | ⟨rfl, h2, _⟩ | ⟨rfl, rfl, h3, h4⟩ | ⟨rfl, h2, _⟩ | ⟨rfl, rfl, h3, h4⟩ | ⟨rfl, h2, _⟩
  · simp
  · simp; omega
  · rw [if_pos rfl]
    have := decDigits_le (n := n.toNat) (by omega)
    omega
  · rw [if_neg (by decide), if_pos rfl]
    unfold quoteS
    have := quote_len x
    simp only [List.length_cons, List.length_append, List.length_nil]; omega
  · rw [if_neg (by decide), if_neg (by decide), if_pos rfl]
    have := fmtS_len h3 h4
    simp; omega
  · simp; omega
/-- What the reference's loop holds: the texts of the first k tokens. -/
theorem inter_snoc (l : List Bytes) (x : Bytes) (h : l ≠ []) : List.intercalate [32] (l ++ [x]) = List.intercalate [32] l ++ [32] ++ x := by
  induction l with
  | nil => exact absurd rfl h
  | cons a l ih =>
    cases l with
    | nil => simp [List.intercalate]
    | cons b l =>
      have := ih (by simp)
      simp only [List.intercalate, List.cons_append, List.intersperse, List.flatten_cons] at *
      simp [this]
theorem inter_len (l : List Bytes) (h : ∀ x ∈ l, x.length ≤ 130) : (List.intercalate [32] l).length ≤ 131 * l.length := by
  induction l with
  | nil => simp [List.intercalate]
  | cons a l ih =>
    have ih' := ih (fun x hx => h x (by simp [hx]))
    have ha := h a (by simp)
    cases l with
    | nil => simp [List.intercalate]; omega
    | cons b l =>
      simp only [List.intercalate, List.intersperse, List.flatten_cons, List.length_append, List.length_cons, List.length_nil] at *
      omega
theorem inter_mono (l m : List Bytes) : (List.intercalate [32] l).length ≤ (List.intercalate [32] (l ++ m)).length := by
  induction m generalizing l with
  | nil => simp
  | cons x m ih =>
    have := ih (l ++ [x])
    rw [List.append_assoc, List.singleton_append] at this
    refine Nat.le_trans ?_ this
    by_cases h : l = []
    · subst h; simp [List.intercalate]
    · rw [inter_snoc l x h]; simp <;> omega
end Go.Proofs.YtedjahbieheeoaaDoor

namespace Go.Proofs.YtedjahbieheeoaaDoor
open Go.RowKit
set_option maxHeartbeats 4000000 in
theorem ref7_written_any (k n o : Int) (s : ByteArray) (w : World) (hv : okTok k (bs s) n = true) : Calls Tryd.prog 32 #[.agg #[.int .i64 k, .string s, .int .i64 n, .int .i64 o]] w fun e w' => e = .returned (str (writtenS k (bs s) n)) ∧ Below w.heap.size w w' := by
  have hl := okTok_len hv
  rw [bs_length] at hl
  have hc := okTok_cases hv
  clear hv
  by_cases k2 : k = 2
  · subst k2
    obtain ⟨h3, h4⟩ : 0 ≤ n ∧ n ≤ 1073741824 := by rcases hc with h | h | h | h | h | h <;> omega
    have HW := hide (show writtenS 2 (bs s) n = Lib.decDigits n.toNat from rfl)
    have HC := hide (fun W => ref7_Number_any n W h3 h4)
    clear hc
    go_enter Tryd.func32, Tryd.ntmps32
    go_wp2_with fail
    refine (HC.out _).mono ?_
    rintro e w1 ⟨rfl, hb1⟩
    go_wp2
    go_ret
    exact ⟨by rw [HW.out]; rfl, Below.trans (by (repeat (first | exact Below.refl _ _ | assumption | refine Below.drew ?_ | refine below_drewN ?_ _ | refine Below.alloc ?_ (by first | omega | (simp; done) | (simp; omega)) _ | refine Below.setCell ?_ (by first | omega | (simp; done) | (simp; omega)) _))) (hb1.mono (by simp))⟩
  by_cases k3 : k = 3
  · subst k3
    have HW := hide (show writtenS 3 (bs s) n = quoteS (bs s) from rfl)
    have HC := hide (fun W => ref7_Quote_any s W (by omega))
    clear hc
    go_enter Tryd.func32, Tryd.ntmps32
    go_wp2_with fail
    refine (HC.out _).mono ?_
    rintro e w1 ⟨rfl, hb1⟩
    go_wp2
    go_ret
    exact ⟨by rw [HW.out]; rfl, Below.trans (by (repeat (first | exact Below.refl _ _ | assumption | refine Below.drew ?_ | refine below_drewN ?_ _ | refine Below.alloc ?_ (by first | omega | (simp; done) | (simp; omega)) _ | refine Below.setCell ?_ (by first | omega | (simp; done) | (simp; omega)) _))) (hb1.mono (by simp))⟩
  by_cases k4 : k = 4
  · subst k4
    obtain ⟨h3, h4⟩ : 0 ≤ n ∧ n ≤ 575999999 := by rcases hc with h | h | h | h | h | h <;> omega
    have HW := hide (show writtenS 4 (bs s) n = 64 :: fmtS n from rfl)
    have HC := hide (fun W => ref7_Moment_any n W h3 h4)
    clear hc
    go_enter Tryd.func32, Tryd.ntmps32
    go_wp2_with fail
    refine (HC.out _).mono ?_
    rintro e w1 ⟨rfl, hb1⟩
    go_wp2
    go_ret
    exact ⟨by rw [HW.out]; rfl, Below.trans (by (repeat (first | exact Below.refl _ _ | assumption | refine Below.drew ?_ | refine below_drewN ?_ _ | refine Below.alloc ?_ (by first | omega | (simp; done) | (simp; omega)) _ | refine Below.setCell ?_ (by first | omega | (simp; done) | (simp; omega)) _))) (hb1.mono (by simp))⟩
  have b2 : (k == 2) = false := by simpa using k2
  have b3 : (k == 3) = false := by simpa using k3
  have b4 : (k == 4) = false := by simpa using k4
  have HW := hide (show writtenS k (bs s) n = bs s by unfold writtenS; rw [if_neg k2, if_neg k3, if_neg k4])
  clear k2 k3 k4 hc
  go_enter Tryd.func32, Tryd.ntmps32
  go_wp2
  go_ret
  refine ⟨?_, by (repeat (first | exact Below.refl _ _ | assumption | refine Below.drew ?_ | refine below_drewN ?_ _ | refine Below.alloc ?_ (by first | omega | (simp; done) | (simp; omega)) _ | refine Below.setCell ?_ (by first | omega | (simp; done) | (simp; omega)) _))⟩
  rw [HW.out]
  show Ending.returned (Value.string s) = .returned (.string ⟨(bs s).toArray⟩)
  rw [mk_bs]
/-- The texts of the first k tokens, with blanks between. -/
noncomputable def partS (ts : List Tok) (k : Nat) : Bytes := List.intercalate [32] ((ts.take k).map Tok.written)
theorem partS_zero (ts : List Tok) : partS ts 0 = [] := rfl
theorem partS_one (ts : List Tok) (h : 0 < ts.length) : partS ts 1 = ts[0].written := by
  cases ts with
  | nil => simp at h
  | cons t ts => simp [partS, List.intercalate]
theorem partS_succ (ts : List Tok) (k : Nat) (h : k < ts.length) (h0 : 0 < k) : partS ts (k + 1) = partS ts k ++ [32] ++ ts[k].written := by
  unfold partS
  rw [List.take_succ_eq_append_getElem h, List.map_append]
  refine inter_snoc _ _ fun e => ?_
  have : ((ts.take k).map Tok.written).length = 0 := by rw [e]; rfl
  rw [List.length_map, List.length_take] at this
  omega
theorem partS_mono (ts : List Tok) {j k : Nat} (h : j ≤ k) : (partS ts j).length ≤ (partS ts k).length := by
  unfold partS
  obtain ⟨m, rfl⟩ := Nat.exists_eq_add_of_le h
  rw [List.take_add, List.map_append]
  exact inter_mono _ _
theorem joinS_part (ts : List Tok) {m : Nat} (h : ts.length = m + 1) : joinS ts = partS ts m := by
  unfold joinS partS
  rw [List.dropLast_eq_take, h]; rfl
theorem partS_le (ts : List Tok) (h : ∀ i (h : i < ts.length), ts[i].ok = true) (k : Nat) (hk : k ≤ 1000000) : (partS ts k).length ≤ 131000000 := by
  unfold partS
  have := inter_len ((ts.take k).map Tok.written) (fun x hx => by
    rw [List.mem_map] at hx
    obtain ⟨t, ht, rfl⟩ := hx
    obtain ⟨i, hi, rfl⟩ := List.mem_iff_getElem.1 (List.mem_of_mem_take ht)
    exact written_len (h i hi))
  rw [List.length_map, List.length_take] at this
  omega
theorem joinR_no {ts : List Tok} (h : valE ts = 8) : joinR ts = ([], 8) := by
  unfold joinR valE at *
  split at h
  · omega
  · rename_i hv; rw [if_neg hv]
theorem joinR_big {ts : List Tok} {m j : Nat} (h : valE ts = 0) (hm : ts.length = m + 1) (hj : j ≤ m) (hb : 65536 < (partS ts j).length) : joinR ts = ([], 2) := by
  unfold joinR valE at *
  split at h
  · rename_i hv
    rw [if_pos hv, joinS_part ts hm, if_pos]
    have := partS_mono ts hj
    omega
  · omega
theorem joinR_ok {ts : List Tok} {m : Nat} (h : valE ts = 0) (hm : ts.length = m + 1) (hb : ¬ 65536 < (partS ts m).length) : joinR ts = (partS ts m, 0) := by
  unfold joinR valE at *
  split at h
  · rename_i hv
    rw [if_pos hv, joinS_part ts hm, if_neg hb]
  · omega
theorem valE_cases (ts : List Tok) : valE ts = 8 ∨ (valE ts = 0 ∧ 0 < ts.length ∧ ∀ i (h : i < ts.length), ts[i].ok = true ∧ (ts[i].kind = 0 ↔ i = ts.length - 1)) := by
  unfold valE
  cases h : valT ts
  · left; rfl
  · right; exact ⟨rfl, (valT_iff ts).1 h⟩
set_option maxRecDepth 100000 in
set_option maxHeartbeats 4000000 in
theorem ref7_Join_any (A : Option Addr) (ts : List Tok) (c : Nat) (w : World) (hA : ToksAt w A ts) (hl : ts.length ≤ 1000000) (hx : ∀ j (h : j < ts.length), ts[j].text.length ≤ maxLen) :
    Calls Tryd.prog 18 #[.slice A ts.length c] w fun e w' => e = .returned (.tuple #[str (joinR ts).1, .int .i64 (joinR ts).2]) ∧ Below w.heap.size w w' := by
  have HA := hide hA
  have HX := hide hx
  have HV := hide (ref7_Validate_any A ts c w hA hl hx)
  clear hA hx
  rcases valE_cases ts with h8 | ⟨h0, hlen, hall⟩
  · have HJ := hide (joinR_no h8)
    rw [h8] at HV
    clear h8
    go_enter Tryd.func18, Tryd.ntmps18
    go_wp2_with fail
    refine HV.out.mono ?_
    rintro e w1 ⟨rfl, hb1⟩
    go_wp2
    go_ret2
    exact ⟨by rw [HJ.out]; rfl, hb1⟩
  · obtain ⟨m, hm⟩ : ∃ m, ts.length = m + 1 := ⟨ts.length - 1, by omega⟩
    have HAll := hide (fun i (h : i < ts.length) => (hall i h).1)
    have HBig := hide (fun j (hj : j ≤ m) hb => joinR_big h0 hm hj hb)
    have HOk := hide (fun hb => joinR_ok h0 hm hb)
    rw [h0] at HV
    have HM := hide hm
    have hm1 : m + 1 ≤ 1000000 := by omega
    rw [hm] at HV
    rw [hm]
    clear h0 hall hm hlen hl
    go_enter Tryd.func18, Tryd.ntmps18
    go_wp2_with fail
    refine HV.out.mono ?_
    rintro e w1 ⟨rfl, hb1⟩
    go_wp2
    go_loopw [5, 6] (fun s i wr => ∃ k : Nat, k ≤ m ∧ i = .int .i64 k ∧ s = str (partS ts k) ∧ (partS ts k).length ≤ 65536 ∧ Below w.heap.size w wr) (fun _ i _ => m - (intOf i).toNat)
    case atStart => exact ⟨0, by omega, rfl, rfl, by rw [partS_zero]; simp, hb1⟩
    case round =>
      obtain ⟨k, hk, rfl, rfl, hp, hbel⟩ := hrel
      have hsz := hbel.size
      by_cases hlt : k < m
      · have hlt2 : k < ts.length := by rw [HM.out]; omega
        rcases HA.out.below hbel with h | ⟨g, off, rfl, hg, hc⟩
        · exact absurd hlt2 (by rw [h]; simp)
        obtain ⟨c1, c2, c3, c4⟩ := hc k hlt2
        have hok := HAll.out k hlt2
        have hq := written_len hok
        have HW := hide (fun W => ref7_written_any ts[k].kind ts[k].num ts[k].off ⟨ts[k].text.toArray⟩ W hok)
        have HS0 := hide (show k = 0 → partS ts (k + 1) = partS ts k ++ ts[k].written from fun e => by subst e; rw [partS_one ts hlt2, partS_zero]; rfl)
        have HS1 := hide (partS_succ ts k hlt2)
        have HB := hide (HBig.out (k + 1) hlt)
        rw [show writtenS ts[k].kind (bs ⟨ts[k].text.toArray⟩) ts[k].num = ts[k].written from rfl] at HW
        rw [show writtenS ts[k].kind ts[k].text ts[k].num = ts[k].written from rfl] at hq
        clear hc hok
        generalize ts[k].written = q at *
        generalize ts[k] = x at *
        generalize partS ts k = p at *
        clear hlt2
        by_cases hz : k = 0
        · have HE := hide (HS0.out hz)
          have hk0 : decide (0 < k) = false := by simp [hz]
          clear hz
          by_cases hb : 65536 < p.length + q.length
          · have HR := hide (HB.out (by rw [HE.out]; simpa using hb))
            go_wp2_with fail
            refine (HW.out _).mono ?_
            rintro e w2 ⟨rfl, hb2⟩
            go_wp2
            go_ret2
            exact ⟨by rw [HR.out]; rfl, hbel.trans (hb2.mono hsz)⟩
          · go_wp2_with fail
            refine (HW.out _).mono ?_
            rintro e w2 ⟨rfl, hb2⟩
            go_wp2
            exact ⟨⟨k + 1, by omega, by go_num, by rw [HE.out, ba_append]; simp, by rw [HE.out]; simp; omega, hbel.trans (hb2.mono hsz)⟩, by simp [intOf]; omega⟩
        · have HE := hide (HS1.out (by omega))
          have hk0 : 0 < k := by omega
          clear hz
          by_cases hb : 65536 < p.length + 1 + q.length
          · have HR := hide (HB.out (by rw [HE.out]; simp; omega))
            go_wp2_with fail
            refine (HW.out _).mono ?_
            rintro e w2 ⟨rfl, hb2⟩
            go_wp2
            go_ret2
            exact ⟨by rw [HR.out]; rfl, hbel.trans (hb2.mono hsz)⟩
          · go_wp2_with fail
            refine (HW.out _).mono ?_
            rintro e w2 ⟨rfl, hb2⟩
            go_wp2
            exact ⟨⟨k + 1, by omega, by go_num, by rw [HE.out, ba_append, ba_append]; simp, by rw [HE.out]; simp; omega, hbel.trans (hb2.mono hsz)⟩, by simp [intOf]; omega⟩
      · obtain rfl : k = m := by omega
        have HE := hide (HOk.out (by omega))
        go_wp2
        go_ret2
        exact ⟨by rw [HE.out]; rfl, hbel⟩
end Go.Proofs.YtedjahbieheeoaaDoor

namespace Go.Proofs.YtedjahbieheeoaaDoor
open Go.RowKit
theorem index_cons (b : UInt8) (l : Bytes) : Lib.index (b :: l) [39] = if b = 39 then 0 else if Lib.index l [39] = -1 then -1 else Lib.index l [39] + 1 := by
  rw [Lib.index_one, Lib.index_one, Lib.indexByte]
  by_cases h : b = 39
  · subst h; simp
  · simp [h]
theorem replaceK_q : ∀ (s : Bytes) (k : Nat), s.count 39 ≤ k → Lib.replaceK [39] [39, 39] k s = s.flatMap qByte
  | [], 0, _ => rfl
  | [], k + 1, _ => by simp [Lib.replaceK, Lib.index]
  | b :: l, 0, h => by
    by_cases hb : b = 39
    · subst hb; simp at h
    · have hc : l.count 39 ≤ 0 := by rw [List.count_cons_of_ne (by simpa using hb)] at h; exact h
      have ih := replaceK_q l 0 hc
      rw [List.flatMap_cons, ← ih]
      have hq : qByte b = [b] := by unfold qByte; rw [if_neg (fun e => hb (UInt8.toNat_inj.1 (by rw [e]; rfl)))]
      rw [hq]; rfl
  | b :: l, k + 1, h => by
    by_cases hb : b = 39
    · subst hb
      have hc : l.count 39 ≤ k := by simp at h; exact h
      have ih := replaceK_q l k hc
      rw [Lib.replaceK_hit _ _ _ _ 0 (by rw [index_cons, if_pos rfl]; rfl), List.flatMap_cons, ← ih]
      rfl
    · have hc : l.count 39 ≤ k + 1 := by rw [List.count_cons_of_ne (by simpa using hb)] at h; exact h
      have ih := replaceK_q l (k + 1) hc
      have hq : qByte b = [b] := by unfold qByte; rw [if_neg (fun e => hb (UInt8.toNat_inj.1 (by rw [e]; rfl)))]
      rw [List.flatMap_cons, hq, ← ih]
      have hge := Lib.index_ge l [39]
      by_cases hm : Lib.index l [39] = -1
      · rw [Lib.replaceK, Lib.replaceK, index_cons, if_neg hb, if_pos hm, hm]; simp
      · obtain ⟨i, hi⟩ : ∃ i : Nat, Lib.index l [39] = i := ⟨(Lib.index l [39]).toNat, by omega⟩
        rw [Lib.replaceK_hit _ _ _ _ (i + 1) (by rw [index_cons, if_neg hb, if_neg hm, hi]; rfl), Lib.replaceK_hit _ _ _ _ i hi]
        show List.take (i + 1) (b :: l) ++ [39, 39] ++ Lib.replaceK [39] [39, 39] k (List.drop (i + 1 + 1) (b :: l)) = [b] ++ (List.take i l ++ [39, 39] ++ Lib.replaceK [39] [39, 39] k (List.drop (i + 1) l))
        simp
theorem replaceAll_q (s : Bytes) : Lib.replaceAll s [39] [39, 39] = s.flatMap qByte := by
  unfold Lib.replaceAll Lib.replace
  rw [if_neg (by decide)]
  refine replaceK_q s _ ?_
  unfold Lib.replaceNum
  rw [if_pos (.inl (by decide)), Lib.count_one]; exact Nat.le_refl _
structure GlobJ (w : World) : Prop where
  glob : Glob w
  len : ∃ m, w.cell? ⟨3, 0, none⟩ = some (.int .i64 m)
  tab : Lib.TabIs Tryd.prog w "internal/strconv.uint64pow10" .u64 Lib.pow10Tab
theorem gPow : Tryd.prog.globalNamed "internal/strconv.uint64pow10" = some 4 := by kernel_rfl
theorem var_lt {w : World} {n : String} {g : Nat} {cs : Array Value} (hg : Tryd.prog.globalNamed n = some g) (h : w.var? Tryd.prog n = some cs) (hs : 0 < cs.size) : g < w.heap.size := by
  have := World.var?_cell hg h 0
  rw [Array.getElem?_eq_getElem hs] at this
  exact World.block_lt_of_cell? w _ this
theorem GlobJ.below {w w' : World} (h : GlobJ w) (hb : Below w.heap.size w w') : GlobJ w' := by
  refine ⟨h.glob.below hb, ?_, ?_⟩
  · obtain ⟨m, hm⟩ := h.len
    exact ⟨m, by rw [hb.cell (p := ⟨3, 0, none⟩) (World.block_lt_of_cell? w _ hm)]; exact hm⟩
  · exact var?_below hb gPow (var_lt gPow h.tab (by decide)) h.tab
theorem replaceAll_any (s : ByteArray) (w : World) (hG : GlobJ w) (hs : s.size ≤ 100000) :
    Calls Tryd.prog 29 #[.string s, .string ⟨#[39]⟩, .string ⟨#[39, 39]⟩] w fun e w' => e = .returned (str ((bs s).flatMap qByte)) ∧ Below w.heap.size w w' := by
  obtain ⟨m, hm⟩ := hG.len
  have hc : Lib.countB s ⟨#[39]⟩ ≤ s.size := Lib.countB_le ⟨#[39]⟩ (by decide) s.size s (Nat.le_refl _)
  refine (Tryd.strings_ReplaceAll s ⟨#[39]⟩ ⟨#[39, 39]⟩ m w (by omega) hm (by decide) (by
    have : (⟨#[39, 39]⟩ : ByteArray).size = 2 := rfl
    rw [this]; omega)).mono fun e w' ⟨he, hb⟩ => ⟨?_, hb⟩
  rw [he]
  have := replaceAll_q (bs s)
  exact congrArg (fun l => Ending.returned (str l)) this
theorem grow_below (w : World) (k : Nat) (os : Array Obj) : Below w.heap.size w (Go.Sort.grow (w.drewN k) os) :=
  ⟨rfl, rfl, rfl, by simp [Go.Sort.grow, World.drewN], fun i hi => by
    show ((w.drewN k).heap ++ os)[i]? = _
    rw [Array.getElem?_append_left (by simpa [World.drewN] using hi)]
    rfl⟩
theorem itoa_any (n : Int) (w : World) (hG : GlobJ w) (h0 : 0 ≤ n) (h1 : n ≤ 1073741824) :
    Calls Tryd.prog 28 #[.int .i64 n] w fun e w' => e = .returned (str (Lib.decDigits n.toNat)) ∧ Below w.heap.size w w' := by
  refine (Tryd.strconv_Itoa n (by omega) (by omega) w hG.tab).mono fun e w' ⟨he, hb⟩ => ⟨?_, ?_⟩
  · rw [he]
    unfold Lib.itoa
    rw [if_neg (by omega)]
  · obtain ⟨k, os, rfl⟩ := hb
    exact grow_below w k os
end Go.Proofs.YtedjahbieheeoaaDoor
