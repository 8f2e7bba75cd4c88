/- The law ConsoleRows, walked. -/
import Derived.Test.YtajcddaahmbllaaDoorConPQ
import Derived.Test.YtajcddaahmbllaaDoorConG
set_option linter.unusedVariables false
set_option linter.unusedSimpArgs false
namespace Go.Proofs.YtajcddaahmbllaaDoor
open Go.RowKit
theorem cells_fresh3 {w : World} {g : Nat} {a b c : Value} {t : TypeId} (h : w.heap[g]? = some (.cells #[a, b, c] t)) : ∀ (j : Nat) (u : Value), [a, b, c][j]? = some u → w.cell? ((⟨g, 0, none⟩ : Addr).add j) = some u := by
  intro j u hu
  have e : (⟨g, 0, none⟩ : Addr).add j = ⟨g, j, none⟩ := by unfold Addr.add; split <;> simp_all
  rw [e, cell_of_heap h]
  simpa using hu
def AllV (vs : List Vl) : Prop := ∀ v ∈ vs, validV v.kind v.num v.text = true
theorem AllV.snoc {vs : List Vl} {v : Vl} (h : AllV vs) (hv : validV v.kind v.num v.text = true) : AllV (vs ++ [v]) := by
  intro x hx
  rcases List.mem_append.1 hx with hx | hx
  · exact h x hx
  · simp at hx; subst hx; exact hv
theorem validV_text {k n : Int} {x : Bytes} (h : validV k n x = true) : x.length ≤ 64 := by
  rcases validV_cases h with ⟨_, _, rfl⟩ | ⟨_, _, rfl⟩ | ⟨_, _, _, rfl⟩ | ⟨_, _, h⟩ | ⟨_, _, _, rfl⟩ <;> first | exact h | simp
noncomputable abbrev litB (v : Vl) : ByteArray := ⟨(litV v.kind v.num v.text).toArray⟩
noncomputable abbrev litVals (vs : List Vl) : List Value := vs.map fun v => Value.string (litB v)
theorem sep_list (p : Nat) (sp : ByteArray) (h : sp.data.toList = List.replicate p 32) : (sp ++ ⟨#[44]⟩ : ByteArray).data.toList = List.replicate p 32 ++ [44] := by
  rw [ByteArray.data_append, Array.toList_append, h]
theorem repeat_any (p : Nat) (hp : p ≤ 2) (w : World) : Calls Tryd.prog 15 #[.string ⟨#[32]⟩, .int .i64 p] w fun e w' => e = .returned (str (List.replicate p 32)) ∧ Below w.heap.size w w' := by
  refine (Tryd.strings_Repeat ⟨#[32]⟩ p w (by omega) (by show 1 * p ≤ _; omega)).mono fun e w' ⟨he, hb⟩ => ⟨?_, hb⟩
  rw [he]
  have e1 : Lib.repeatL [32] p = List.replicate p 32 := by
    have := Lib.repeatL_replicate 32 1 p
    simpa using this
  show Ending.returned (str (Lib.repeatL [32] p)) = _
  rw [e1]
theorem rowJoin_any (A : Option Addr) (c p : Nat) (vs : List Vl) (base : Nat) (sep : ByteArray) (w : World) (hs : sep.data.toList = List.replicate p 32 ++ [44]) (hp : p ≤ 2) (hl : vs.length ≤ 12) (hv : AllV vs)
    (hown : w.ownsRow base 9 1 (.slice A vs.length c) vs.length (litVals vs)) :
    Calls Tryd.prog 14 #[.slice A vs.length c, .string sep] w fun e w' => e = .returned (str (rowText p vs)) ∧ Below w.heap.size w w' := by
  have hrl := rowText_len p hp vs hl hv
  by_cases h0 : vs = []
  · subst h0
    refine (Tryd.strings_Join_none A c sep w).mono fun e w' ⟨he, hw⟩ => ⟨he, ?_⟩
    rw [hw]; exact Below.refl _ _
  · rcases hown.2 with ⟨_, hn⟩ | ⟨g, cap, cur, hvv, hg, hh, hnc, hcap, hsz, htk⟩
    · exact absurd (List.eq_nil_of_length_eq_zero hn) h0
    · injection hvv with e1 e2 e3
      subst e1 e3
      have hx : (vs.map litB).length = vs.length := by simp
      have hm : (vs.map litB).map (·.data.toList) = vs.map fun v => litV v.kind v.num v.text := by rw [List.map_map]; rfl
      have := Tryd.strings_Join g 0 c (vs.map litB) sep w (fun j x hj => by
          have hjl : j < vs.length := by
            rcases Nat.lt_or_ge j vs.length with h | h
            · exact h
            · rw [List.getElem?_eq_none (by simpa using h)] at hj; cases hj
          rw [Nat.zero_add, World.ownsRow.cellAt hown j (by omega)]
          rw [List.getElem?_map] at hj ⊢
          cases hv2 : vs[j]? with
          | none => rw [hv2] at hj; cases hj
          | some v => rw [hv2] at hj; injection hj with hj; subst hj; rfl) (lt_of_heap hh) (by rw [hx]; omega) (by rw [hx]; exact hnc) (by rw [hm, hs]; show (rowText p vs).length ≤ _; omega)
      rw [hx, hm, hs] at this
      exact this
set_option maxRecDepth 100000 in
set_option maxHeartbeats 4000000 in
theorem law42_ConsoleRows_any (A : Option Addr) (l : List Int) (c : Nat) (n b : Int) (w : World) (hG : GlobJ w) (hl : IntsAt w A l) (hlm : l.length ≤ maxLen) :
    Calls Tryd.prog 4 #[.slice A l.length c, .int .i64 n, .int .i64 b] w fun e w' => e = .returned (.bool true) ∧ Below w.heap.size w w' := by
  have HG := hide hG; clear hG
  unfold maxLen at hlm
  by_cases h1 : 60 < l.length
  · go_enter Tryd.func4, Tryd.ntmps4
    go_wp2_with fail
    refine (law42_plain_any _ (HG.out.below (by (repeat (first | exact Below.refl _ _ | assumption | refine Below.drew ?_ | refine below_drewN ?_ _ | refine Below.alloc ?_ (by first | omega | (simp; done) | (simp; omega)) _ | refine Below.setCell ?_ (by first | omega | (simp; done) | (simp; omega)) _))))).mono ?_
    rintro e w1 ⟨rfl, hb1⟩
    go_wp2
    go_ret
    exact ⟨rfl, hb1⟩
  have hl6 : l.length ≤ 60 := by omega
  have hA : l ≠ [] → ∀ a, A = some a → a.block < w.heap.size := fun h0 a ha => by
    rcases hl with h | ⟨x, hx, hb, _⟩
    · exact absurd h h0
    · rw [hx] at ha; injection ha with ha; subst ha; exact hb
  have HL := hide hl; have HA := hide hA
  clear hl hA hlm
  have HP13 := hide (fun W => place_any n 13 W (by omega) (by omega))
  obtain ⟨p1, p2⟩ := placeI_bd n 13 (by omega)
  have HP3 := hide (fun W => place_any b 3 W (by omega) (by omega))
  obtain ⟨q1, q2⟩ := placeI_bd b 3 (by omega)
  generalize placeI n 13 = pn at *
  generalize placeI b 3 = pb at *
  obtain ⟨m0, rfl⟩ : ∃ m : Nat, pn = m := ⟨pn.toNat, by omega⟩
  obtain ⟨p0, rfl⟩ : ∃ m : Nat, pb = m := ⟨pb.toNat, by omega⟩
  obtain ⟨i0, hi, hz0, hz1, hz2⟩ := info_parts Tryd.info_val
  go_enter Tryd.func4, Tryd.ntmps4
  go_wp2_with (go_at_call 11; refine (HP13.out _).mono ?_; rintro e w' ⟨rfl, rfl⟩)
  go_loopw [8, 9] (fun row k wr => ∃ (m : Nat) (vs : List Vl) (A' : Option Addr) (c' : Nat), row = .slice A' vs.length c' ∧ k = .int .i64 m ∧ m + vs.length ≤ 12 ∧
      wr.ownsRow (w.heap.size + 1) 23 3 (.slice A' vs.length c') vs.length (vlCells vs) ∧ Hid (AllV vs) ∧ Hid (NumIs wr w.heap.size A l.length c) ∧ w.heap.size < wr.heap.size ∧ Below w.heap.size w wr)
    (fun _ k _ => (intOf k).toNat)
  case atStart => exact ⟨m0, [], none, 0, rfl, rfl, by simp; omega, own_nil _ _ _ _, (fun v hv => by cases hv), ⟨0, by omega, heap_alloc_new w _⟩, by simp, by (repeat (first | exact Below.refl _ _ | assumption | refine Below.drew ?_ | refine below_drewN ?_ _ | refine Below.alloc ?_ (by first | omega | (simp; done) | (simp; omega)) _ | refine Below.setCell ?_ (by first | omega | (simp; done) | (simp; omega)) _))⟩
  case round =>
    obtain ⟨m, vs, A', c', rfl, rfl, hmv, hown, HV, HN, hGw, hbel⟩ := hrel
    by_cases hm : 0 < m
    · obtain ⟨m, rfl⟩ : ∃ j, m = j + 1 := ⟨m - 1, by omega⟩
      go_wp2_with fail
      refine (next_any w.heap.size A l c 4 _ (by omega) (by omega) (HL.out.below hbel) (by omega) HA.out HN.out).mono ?_
      rintro e w1 ⟨⟨r, hr0, hr1, rfl⟩, hg1, hn1⟩
      have hGw1 : w.heap.size < w1.heap.size := Nat.lt_of_lt_of_le hGw hg1.size
      have HL1 := hide (HL.out.below hbel |>.grown hg1 HA.out)
      have HW1 := hide hg1
      have HN1 := hide hn1
      clear hg1 hn1
      go_wp2_with fail
      refine (value_any w.heap.size A l c ⟨#[]⟩ (1 + r) _ (by omega) (by omega) HL1.out (by omega) HA.out hGw1 HN1.out).mono ?_
      rintro e w2 ⟨⟨v, hv, hv4, rfl⟩, hg2, hn2⟩
      have hg := grown_trans HW1.out hg2
      have hne : (Value.slice A' vs.length c').ownBlock ≠ some w.heap.size := fun e => by have := (hown.lt _ e).1; omega
      have own2 := hown.kept hg (.inr hne)
      have hs2 := hg2.size
      have hbel2 : Below w.heap.size w w2 := hbel.grown hg (by omega) (fun k hk => by injection hk with hk; omega)
      have HN2 := hide hn2
      clear hg hg2 hn2
      go_wp2_with (at_builtin; refine wpList_append_own _ rfl _ _ 25 rfl (w.heap.size + 1) 23 i0 _ 3 32 Tryd.underlying25 hi hz0 hz1 hz2 rfl (by decide) _ _ _ rfl (own2.alloc _) ⟨w2.heap.size, 0, none⟩ 1 1 v.cells rfl rfl (by exact cells_fresh3 (heap_alloc_new _ _)) (by simp [Vl.cells, Value.oneCell']) (by unfold maxLen; omega) (by omega) (by simp; omega) ?_; intro v' w3 hown3 hgrow _)
      obtain ⟨A3, c3, rfl⟩ := own_form hown3
      have hs3 := hgrow.size
      simp at hs3
      have hbel3 : Below w.heap.size w w3 := (hbel2.alloc (by omega) _).grown hgrow (by simp; omega) (fun k hk => by have := (own2.lt k hk).1; omega)
      have hn3 : NumIs w3 w.heap.size A l.length c := by
        obtain ⟨k, hk, hh⟩ := HN2.out
        exact ⟨k, hk, (hgrow.block _ (by simp; omega) (Ne.symm hne)).trans ((heap_alloc_old _ _ (by omega)).trans hh)⟩
      have HN3 := hide hn3
      have HO3 := hide hown3
      clear hgrow hn3 hown3 own2 hown hne
      go_wp2
      exact ⟨⟨m, vs ++ [v], A3, c3, by simp, by first | rfl | go_num, by simp; omega, by simpa using HO3.out, HV.out.snoc hv, HN3, by omega, hbel3⟩, by simp [intOf]⟩
    · obtain rfl : m = 0 := by omega
      obtain ⟨wo, rfl⟩ : ∃ wo : World, wo = wr := ⟨_, rfl⟩
      have hvl : vs.length ≤ 12 := by omega
      have HVl := hide (VlsAt_of_own hown)
      clear hown HN hm hmv
      rw [show ((0 : Nat) : Int) = 0 from rfl]
      obtain ⟨i1, hj, hy0, hy1, hy2⟩ := info_parts Tryd.info_str
      go_wp2
      go_loopw [10, 39] (fun lv i wr => ∃ (k : Nat) (A2 : Option Addr) (c2 : Nat), lv = .slice A2 k c2 ∧ i = .int .i64 k ∧ k ≤ vs.length ∧
          wr.ownsRow wo.heap.size 9 1 (.slice A2 k c2) k (litVals (vs.take k)) ∧ Below wo.heap.size wo wr)
        (fun _ i _ => vs.length - (intOf i).toNat)
      case atStart => exact ⟨0, none, 0, rfl, rfl, by omega, own_nil _ _ _ _, Below.refl _ _⟩
      case round =>
        obtain ⟨k, A2, c2, rfl, rfl, hk, hown, hbl⟩ := hrel
        have hso := hbl.size
        have hbw := below_st hbl hbel
        by_cases hlt : k < vs.length
        · rcases HVl.out.below hbl with h | ⟨gv, ov, rfl, hgv, hcv⟩
          · exact absurd hlt (by rw [h]; simp)
          obtain ⟨ca1, ca2, ca3⟩ := hcv k hlt
          have hval := HV.out vs[k] (List.getElem_mem hlt)
          have htl := validV_text hval
          have HLit := hide (fun W hW => con_Literal_any vs[k].kind vs[k].num ⟨vs[k].text.toArray⟩ W hW (by show vs[k].text.toArray.size ≤ _; simp; omega))
          have HT := hide (show litVals (vs.take (k + 1)) = litVals (vs.take k) ++ [.string (litB vs[k])] by
            unfold litVals; rw [List.take_succ_eq_append_getElem hlt, List.map_append]; rfl)
          clear hcv hval htl
          have HLitE := hide (show litB vs[k] = ⟨(litV vs[k].kind vs[k].num (bs ⟨vs[k].text.toArray⟩)).toArray⟩ from rfl)
          generalize litB vs[k] = y at *
          generalize vs[k] = v at *
          go_wp2_with fail
          refine (HLit.out _ (HG.out.below (by first | exact hbw | ((repeat (first | exact Below.refl _ _ | assumption | refine Below.drew ?_ | refine below_drewN ?_ _ | refine Below.alloc ?_ (by first | omega | (simp; done) | (simp; omega)) _ | refine Below.setCell ?_ (by first | omega | (simp; done) | (simp; omega)) _)); done)))).mono ?_
          rintro e w2 ⟨rfl, hb2⟩
          rw [show str (litV v.kind v.num (bs ⟨v.text.toArray⟩)) = .string y from congrArg Value.string HLitE.out.symm]
          have own2 := own_below (hown.alloc _) hb2
          have hs2 := hb2.size
          simp at hs2
          go_wp2_with (at_builtin; refine wpList_append_own _ rfl _ _ 41 rfl wo.heap.size 9 i1 _ 1 16 Tryd.underlying41 hj hy0 hy1 hy2 rfl (by decide) _ _ _ rfl (own2.alloc _) ⟨w2.heap.size, 0, none⟩ 1 1 [_] rfl rfl (by exact cells_one (heap_alloc_new _ _)) (by simp [Value.oneCell']) (by unfold maxLen; omega) (by omega) (by simp; omega) ?_; intro v' w3 hown3 hgrow _)
          obtain ⟨A3, c3, rfl⟩ := own_form hown3
          have hbl2 : Below wo.heap.size wo w2 := below_st (hb2.mono (by simp)) (by first | exact hbl | exact hbl.alloc hso _)
          have hbl3 : Below wo.heap.size wo w3 := (hbl2.alloc (by omega) _).grown hgrow (by simp; omega) (fun k hk => by have := (own2.lt k hk).1; omega)
          have HO3 := hide hown3
          clear hgrow hown3 own2 hown hbl2 hb2
          go_wp2
          go_roundw
          case rel => exact ⟨k + 1, A3, c3, rfl, by go_num, by omega, by rw [HT.out]; exact HO3.out, hbl3⟩
          case measure => simp [intOf]; omega
        · obtain rfl : k = vs.length := by omega
          have hcs : litVals (vs.take vs.length) = litVals vs := by rw [List.take_length]
          rw [hcs] at hown
          have HRo := hide (row_back p0 (by omega) vs hvl HV.out)
          have HRl := hide (rowText_len p0 (by omega) vs hvl HV.out)
          have HO := hide hown
          clear hown hcs
          go_wp2_with (go_at_call 11; refine (HP3.out _).mono ?_; rintro e w' ⟨rfl, rfl⟩)
          refine (repeat_any p0 (by omega) _).mono ?_
          rintro e w3 ⟨rfl, hb3⟩
          go_wp2_with fail
          refine (rowJoin_any A2 c2 p0 vs wo.heap.size _ _ (sep_list p0 ⟨(List.replicate p0 32).toArray⟩ rfl) (by omega) hvl HV.out (own_below HO.out hb3)).mono ?_
          rintro e w4 ⟨rfl, hb4⟩
          have hb4w := below_st hb4 (below_st hb3 hbw)
          go_wp2_with fail
          refine (console_Row_any _ _ (HG.out.below hb4w).glob (by show (rowText p0 vs).toArray.size ≤ _; have := HRl.out; simp; omega)).mono ?_
          rintro e w5 ⟨hres, hb5⟩
          rw [show bs ⟨(rowText p0 vs).toArray⟩ = rowText p0 vs from rfl, HRo.out] at hres
          obtain ⟨A5, c5, rfl, hown5⟩ := hres
          have HV5 := hide (VlsAt_of_own hown5)
          have hb5w := below_st hb5 hb4w
          clear hown5
          go_wp2_with fail
          refine (ref22_SameRow_any A5 _ vs c5 c' _ HV5.out ((((HVl.out.below hbl).below hb3).below hb4).below hb5) (by omega)).mono ?_
          rintro e w6 ⟨rfl, n6, rfl⟩
          go_wp2_with fail
          refine (law42_plain_any _ (HG.out.below (below_drewN hb5w n6))).mono ?_
          rintro e w7 ⟨rfl, hb7⟩
          go_wp2
          go_ret
          exact ⟨rfl, below_st hb7 (below_drewN hb5w n6)⟩
end Go.Proofs.YtajcddaahmbllaaDoor
