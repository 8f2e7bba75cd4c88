/- Contract: token.Join. -/
import Derived.Test.YtedjahbieheeoaaDoorJoi
set_option linter.unusedVariables false
set_option linter.unusedSimpArgs false
namespace Go.Proofs.YtedjahbieheeoaaDoor
open Go.RowKit
theorem Tryd.info_str : (Tryd.prog.info? 9).map (fun i => (i.zero, i.size, i.bytes)) = some (some (.string ⟨#[]⟩), 1, 16) := by kernel_rfl
noncomputable def textCells (ts : List Tok) (k : Nat) : List Value := (ts.take k).map fun t => str t.written
theorem textCells_succ (ts : List Tok) (k : Nat) (h : k < ts.length) : textCells ts (k + 1) = textCells ts k ++ [str ts[k].written] := by
  unfold textCells
  rw [List.take_succ_eq_append_getElem h, List.map_append]; rfl
theorem textCells_len (ts : List Tok) (k : Nat) (h : k ≤ ts.length) : (textCells ts k).length = k := by unfold textCells; simp; omega
set_option maxHeartbeats 4000000 in
theorem join_any (A : Option Addr) (c m : Nat) (ts : List Tok) (w : World) (base : Nat) (hm : m ≤ ts.length) (hm2 : m ≤ 1000000) (hown : w.ownsRow base 9 1 (.slice A m c) m (textCells ts m)) (hp : (partS ts m).length ≤ 131000000) :
    Calls Tryd.prog 31 #[.slice A m c, .string ⟨#[32]⟩] w fun e w' => e = .returned (str (partS ts m)) ∧ Below w.heap.size w w' := by
  by_cases h0 : m = 0
  · subst h0
    refine (Tryd.strings_Join_none A c ⟨#[32]⟩ w).mono fun e w' ⟨he, hw⟩ => ⟨he, hw ▸ Below.refl _ _⟩
  · rcases hown.2 with ⟨hv, hn⟩ | ⟨g, cap, cur, hv, hg, hh, hnc, hcap, hsz, htk⟩
    · omega
    · have hv' := hv
      injection hv with h1 h2 h3
      subst h1 h3
      have hcell : ∀ j, j < m → w.cell? ⟨g, j, none⟩ = (textCells ts m)[j]? := fun j hj => by
        have := World.ownsRow.cellAt hown j (by omega)
        exact this
      have hx : ((ts.take m).map fun t => (⟨t.written.toArray⟩ : ByteArray)).length = m := by simp; omega
      have hj : Lib.join (((ts.take m).map fun t => (⟨t.written.toArray⟩ : ByteArray)).map (·.data.toList)) [32] = partS ts m := by
        unfold partS Lib.join
        rw [List.map_map]; rfl
      have key := Tryd.strings_Join g 0 c ((ts.take m).map fun t => (⟨t.written.toArray⟩ : ByteArray)) ⟨#[32]⟩ w (fun j x hx => ?_) (lt_of_heap hh) (by omega) (by omega) (by
        show (Lib.join _ [32]).length ≤ _
        rw [hj]; omega)
      · rw [hx] at key
        refine key.mono fun e w' ⟨he, hb⟩ => ⟨?_, hb⟩
        rw [he]
        exact congrArg (fun l => Ending.returned (str l)) hj
      · have hjm : j < m := by
          have := (List.getElem?_eq_some_iff.1 hx).1
          simp at this; omega
        rw [Nat.zero_add, hcell j hjm]
        unfold textCells
        rw [List.getElem?_map] at hx ⊢
        cases ht : (ts.take m)[j]? with
        | none => rw [ht] at hx; simp at hx
        | some t => rw [ht] at hx; simp at hx; subst hx; rfl
def JoinRel (m : Nat) (ts : List Tok) (w wr : World) (v i : Value) : Prop := ∃ (k : Nat) (A : Option Addr) (c : Nat), v = .slice A k c ∧ i = .int .i64 k ∧ k ≤ m ∧ wr.ownsRow w.heap.size 9 1 (.slice A k c) k (textCells ts k) ∧ Below w.heap.size w wr
set_option maxRecDepth 100000 in
set_option maxHeartbeats 8000000 in
theorem token_Join_any (A : Option Addr) (ts : List Tok) (c : Nat) (w : World) (hG : GlobJ w) (hA : ToksAt w A ts) (hl : ts.length ≤ 1000000) (hc : ts.length ≤ c) (hx : ∀ j (h : j < ts.length), ts[j].text.length ≤ maxLen) :
    Calls Tryd.prog 17 #[.slice A ts.length c] w fun e w' => e = .returned (.tuple #[str (joinR ts).1, .int .i64 (joinR ts).2]) ∧ Below w.heap.size w w' := by
  have HA := hide hA
  have HG := hide hG
  have HV := hide (token_Validate_any A ts c w hG.glob hA hl hx)
  clear hA hx hG
  rcases valE_cases ts with h8 | ⟨h0, hlen, hall⟩
  · have HJ := hide (joinR_no h8)
    rw [h8] at HV
    clear h8
    go_enter Tryd.func17, Tryd.ntmps17
    go_wp2_with fail
    refine HV.out.mono ?_
    rintro e w1 ⟨rfl, hb1⟩
    go_wp2
    go_ret2
    exact ⟨by rw [HJ.out]; rfl, hb1⟩
  · obtain ⟨m, hm⟩ : ∃ m, ts.length = m + 1 := ⟨ts.length - 1, by omega⟩
    have HAll := hide (fun i (h : i < ts.length) => (hall i h).1)
    have HBig := hide (fun hb => joinR_big h0 hm (Nat.le_refl m) hb)
    have HOk := hide (fun hb => joinR_ok h0 hm hb)
    have HP := hide (partS_le ts (fun i h => (hall i h).1) m (by omega))
    rw [h0] at HV
    have HM := hide hm
    have hm1 : m + 1 ≤ 1000000 := by omega
    have hc1 : m + 1 ≤ c := by omega
    rw [hm] at HV
    rw [hm]
    clear h0 hall hm hlen hl hc
    obtain ⟨i0, hi, hz0, hz1, hz2⟩ := info_parts Tryd.info_str
    go_enter Tryd.func17, Tryd.ntmps17
    go_wp2_with fail
    refine HV.out.mono ?_
    rintro e w1 ⟨rfl, hb1⟩
    go_wp2
    go_loopw [5, 21] (fun v i wr => ∃ (k : Nat) (A : Option Addr) (c : Nat), v = .slice A k c ∧ i = .int .i64 k ∧ k ≤ m ∧ wr.ownsRow w.heap.size 9 1 (.slice A k c) k (textCells ts k) ∧ Below w.heap.size w wr) (fun _ i _ => m - (intOf i).toNat)
    case atStart => exact ⟨0, none, 0, rfl, rfl, by omega, own_nil _ _ _ _, hb1⟩
    case round =>
      obtain ⟨k, A', c', rfl, rfl, hk, hown, hbel⟩ := hrel
      have hsz := hbel.size
      by_cases hlt : k < m
      · have hlt2 : k < ts.length := by rw [HM.out]; omega
        rcases HA.out.below hbel with h | ⟨g, off, rfl, hg, hcc⟩
        · exact absurd hlt2 (by rw [h]; simp)
        obtain ⟨c1, c2, c3, c4⟩ := hcc k hlt2
        have hok := HAll.out k hlt2
        have HT := hide (textCells_succ ts k hlt2)
        have hlen := okTok_len hok
        have hcs := okTok_cases hok
        clear hcc hok
        have HW := hide (show ts[k].written = writtenS ts[k].kind ts[k].text ts[k].num from rfl)
        generalize ts[k].written = q at *
        generalize ts[k] = x at *
        clear hlt2
        by_cases k2 : x.kind = 2
        · obtain ⟨h3, h4⟩ : 0 ≤ x.num ∧ x.num ≤ 1073741824 := by rcases hcs with h | h | h | h | h | h <;> omega
          have b2 : (x.kind == 2) = true := by simpa using k2
          have HQ := hide (show q = Lib.decDigits x.num.toNat by rw [HW.out]; unfold writtenS; rw [if_pos k2])
          clear hcs k2
          go_wp2_with fail
          refine (itoa_any x.num _ (HG.out.below (by (repeat (first | exact Below.refl _ _ | assumption | refine Below.drew ?_ | refine below_drewN ?_ _ | refine Below.alloc ?_ (by first | omega | (simp; done) | (simp; omega)) _ | refine Below.setCell ?_ (by first | omega | (simp; done) | (simp; omega)) _)))) h3 h4).mono ?_
          rintro e w2 ⟨rfl, hb2⟩
          have hb3 : Below wr.heap.size wr w2 := Below.trans (by (repeat (first | exact Below.refl _ _ | assumption | refine Below.drew ?_ | refine below_drewN ?_ _ | refine Below.alloc ?_ (by first | omega | (simp; done) | (simp; omega)) _ | refine Below.setCell ?_ (by first | omega | (simp; done) | (simp; omega)) _))) (hb2.mono (by simp))
          have hb4 := below_st hb3 hbel
          have hs4 := hb4.size
          have own2 := own_below hown hb3
          clear hb2
          go_wp2_with (at_builtin; refine wpList_append_own _ rfl _ _ 30 rfl w.heap.size 9 i0 _ 1 16 Tryd.underlying30 hi hz0 hz1 hz2 rfl (by decide) _ _ _ rfl (own2.alloc _) ⟨w2.heap.size, 0, none⟩ 1 1 [_] rfl rfl (by exact cells_one (heap_alloc_new _ _)) (by simp [Value.oneCell']) (by unfold maxLen; omega) (by omega) (by simp; omega) ?_; intro v' w3 hown' hgrow _)
          have hb5 := (show Below w.heap.size w _ from by (repeat (first | exact Below.refl _ _ | assumption | refine Below.drew ?_ | refine below_drewN ?_ _ | refine Below.alloc ?_ (by first | omega | (simp; done) | (simp; omega)) _ | refine Below.setCell ?_ (by first | omega | (simp; done) | (simp; omega)) _))).grown hgrow (by simp; omega) (fun k hk => (hown.lt k hk).1)
          obtain ⟨A2, c2, rfl⟩ := own_form hown'
          exact ⟨⟨k + 1, A2, c2, by simp, by go_num, by omega, by rw [HT.out, HQ.out]; first | exact hown' | simpa [ba_append] using hown', hb5⟩, by simp [intOf]; omega⟩
        by_cases k3 : x.kind = 3
        · have b2 : (x.kind == 2) = false := by simpa using k2
          have b3 : (x.kind == 3) = true := by simpa using k3
          have HQ := hide (show q = [39] ++ x.text.flatMap qByte ++ [39] by rw [HW.out]; unfold writtenS; rw [if_neg k2, if_pos k3]; rfl)
          have hzl := quote_len x.text
          have HR := hide (fun W (h : GlobJ W) => replaceAll_any ⟨x.text.toArray⟩ W h (show x.text.length ≤ 100000 by omega))
          rw [show bs ⟨x.text.toArray⟩ = x.text from rfl] at HR
          generalize x.text.flatMap qByte = z at *
          have hzl2 : z.length ≤ 200 := by omega
          clear hcs k2 k3 hzl
          go_wp2_with fail
          refine (HR.out _ (HG.out.below (by (repeat (first | exact Below.refl _ _ | assumption | refine Below.drew ?_ | refine below_drewN ?_ _ | refine Below.alloc ?_ (by first | omega | (simp; done) | (simp; omega)) _ | refine Below.setCell ?_ (by first | omega | (simp; done) | (simp; omega)) _))))).mono ?_
          rintro e w2 ⟨rfl, hb2⟩
          have hb3 : Below wr.heap.size wr w2 := Below.trans (by (repeat (first | exact Below.refl _ _ | assumption | refine Below.drew ?_ | refine below_drewN ?_ _ | refine Below.alloc ?_ (by first | omega | (simp; done) | (simp; omega)) _ | refine Below.setCell ?_ (by first | omega | (simp; done) | (simp; omega)) _))) (hb2.mono (by simp))
          have hb4 := below_st hb3 hbel
          have hs4 := hb4.size
          have own2 := own_below hown hb3
          clear hb2
          go_wp2_with (at_builtin; refine wpList_append_own _ rfl _ _ 30 rfl w.heap.size 9 i0 _ 1 16 Tryd.underlying30 hi hz0 hz1 hz2 rfl (by decide) _ _ _ rfl (own2.alloc _) ⟨w2.heap.size, 0, none⟩ 1 1 [_] rfl rfl (by exact cells_one (heap_alloc_new _ _)) (by simp [Value.oneCell']) (by unfold maxLen; omega) (by omega) (by simp; omega) ?_; intro v' w3 hown' hgrow _)
          have hb5 := (show Below w.heap.size w _ from by (repeat (first | exact Below.refl _ _ | assumption | refine Below.drew ?_ | refine below_drewN ?_ _ | refine Below.alloc ?_ (by first | omega | (simp; done) | (simp; omega)) _ | refine Below.setCell ?_ (by first | omega | (simp; done) | (simp; omega)) _))).grown hgrow (by simp; omega) (fun k hk => (hown.lt k hk).1)
          obtain ⟨A2, c2, rfl⟩ := own_form hown'
          exact ⟨⟨k + 1, A2, c2, by simp, by go_num, by omega, by rw [HT.out, HQ.out]; first | exact hown' | simpa [ba_append] using hown', hb5⟩, by simp [intOf]; omega⟩
        by_cases k4 : x.kind = 4
        · obtain ⟨h3, h4⟩ : 0 ≤ x.num ∧ x.num ≤ 575999999 := by rcases hcs with h | h | h | h | h | h <;> omega
          have b2 : (x.kind == 2) = false := by simpa using k2
          have b3 : (x.kind == 3) = false := by simpa using k3
          have b4 : (x.kind == 4) = true := by simpa using k4
          have HQ := hide (show q = [64] ++ fmtS x.num by rw [HW.out]; unfold writtenS; rw [if_neg k2, if_neg k3, if_pos k4]; rfl)
          have hzl := fmtS_len h3 h4
          have HR := hide (fun W (h : GlobJ W) => civil_Format_any x.num W h.glob.lens h3 h4)
          generalize fmtS x.num = z at *
          have hzl2 : z.length ≤ 200 := by omega
          clear hcs k2 k3 k4 hzl
          go_wp2_with fail
          refine (HR.out _ (HG.out.below (by (repeat (first | exact Below.refl _ _ | assumption | refine Below.drew ?_ | refine below_drewN ?_ _ | refine Below.alloc ?_ (by first | omega | (simp; done) | (simp; omega)) _ | refine Below.setCell ?_ (by first | omega | (simp; done) | (simp; omega)) _))))).mono ?_
          rintro e w2 ⟨rfl, hb2⟩
          have hb3 : Below wr.heap.size wr w2 := Below.trans (by (repeat (first | exact Below.refl _ _ | assumption | refine Below.drew ?_ | refine below_drewN ?_ _ | refine Below.alloc ?_ (by first | omega | (simp; done) | (simp; omega)) _ | refine Below.setCell ?_ (by first | omega | (simp; done) | (simp; omega)) _))) (hb2.mono (by simp))
          have hb4 := below_st hb3 hbel
          have hs4 := hb4.size
          have own2 := own_below hown hb3
          clear hb2
          go_wp2_with (at_builtin; refine wpList_append_own _ rfl _ _ 30 rfl w.heap.size 9 i0 _ 1 16 Tryd.underlying30 hi hz0 hz1 hz2 rfl (by decide) _ _ _ rfl (own2.alloc _) ⟨w2.heap.size, 0, none⟩ 1 1 [_] rfl rfl (by exact cells_one (heap_alloc_new _ _)) (by simp [Value.oneCell']) (by unfold maxLen; omega) (by omega) (by simp; omega) ?_; intro v' w3 hown' hgrow _)
          have hb5 := (show Below w.heap.size w _ from by (repeat (first | exact Below.refl _ _ | assumption | refine Below.drew ?_ | refine below_drewN ?_ _ | refine Below.alloc ?_ (by first | omega | (simp; done) | (simp; omega)) _ | refine Below.setCell ?_ (by first | omega | (simp; done) | (simp; omega)) _))).grown hgrow (by simp; omega) (fun k hk => (hown.lt k hk).1)
          obtain ⟨A2, c2, rfl⟩ := own_form hown'
          exact ⟨⟨k + 1, A2, c2, by simp, by go_num, by omega, by rw [HT.out, HQ.out]; first | exact hown' | simpa [ba_append] using hown', hb5⟩, by simp [intOf]; omega⟩
        have b2 : (x.kind == 2) = false := by simpa using k2
        have b3 : (x.kind == 3) = false := by simpa using k3
        have b4 : (x.kind == 4) = false := by simpa using k4
        have HQ := hide (show q = x.text by rw [HW.out]; unfold writtenS; rw [if_neg k2, if_neg k3, if_neg k4])
        clear hcs k2 k3 k4
        go_wp2_with (at_builtin; refine wpList_append_own _ rfl _ _ 30 rfl w.heap.size 9 i0 _ 1 16 Tryd.underlying30 hi hz0 hz1 hz2 rfl (by decide) _ _ _ rfl (own_below hown (by (repeat (first | exact Below.refl _ _ | assumption | refine Below.drew ?_ | refine below_drewN ?_ _ | refine Below.alloc ?_ (by first | omega | (simp; done) | (simp; omega)) _ | refine Below.setCell ?_ (by first | omega | (simp; done) | (simp; omega)) _)))) ⟨wr.heap.size + 1, 0, none⟩ 1 1 [_] rfl rfl (by exact cells_one (heap_new1 _ _ _)) (by simp [Value.oneCell']) (by unfold maxLen; omega) (by omega) (by simp; omega) ?_; intro v' w3 hown' hgrow _)
        have hb5 := (show Below w.heap.size w _ from by (repeat (first | exact Below.refl _ _ | assumption | refine Below.drew ?_ | refine below_drewN ?_ _ | refine Below.alloc ?_ (by first | omega | (simp; done) | (simp; omega)) _ | refine Below.setCell ?_ (by first | omega | (simp; done) | (simp; omega)) _))).grown hgrow (by simp; omega) (fun k hk => (hown.lt k hk).1)
        obtain ⟨A2, c2, rfl⟩ := own_form hown'
        exact ⟨⟨k + 1, A2, c2, by simp, by go_num, by omega, by rw [HT.out, HQ.out]; first | exact hown' | simpa [ba_append] using hown', hb5⟩, by simp [intOf]; omega⟩
      · obtain rfl : k = m := by omega
        have HPP := HP.out
        by_cases hb : 65536 < (partS ts k).length
        · have HE := hide (HBig.out hb)
          have HJ := hide (join_any A' c' k ts wr _ (by rw [HM.out]; omega) (by omega) hown HPP)
          clear HPP
          generalize partS ts k = p at *
          go_wp2_with fail
          refine HJ.out.mono ?_
          rintro e w2 ⟨rfl, hb2⟩
          go_wp2
          go_ret2
          exact ⟨by rw [HE.out]; rfl, hbel.trans (hb2.mono hsz)⟩
        · have HE := hide (HOk.out hb)
          have HJ := hide (join_any A' c' k ts wr _ (by rw [HM.out]; omega) (by omega) hown HPP)
          clear HPP
          generalize partS ts k = p at *
          go_wp2_with fail
          refine HJ.out.mono ?_
          rintro e w2 ⟨rfl, hb2⟩
          go_wp2
          go_ret2
          exact ⟨by rw [HE.out]; rfl, hbel.trans (hb2.mono hsz)⟩
end Go.Proofs.YtedjahbieheeoaaDoor
