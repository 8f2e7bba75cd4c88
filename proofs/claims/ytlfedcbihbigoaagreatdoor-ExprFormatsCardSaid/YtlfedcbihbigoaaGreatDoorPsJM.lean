/- Contracts: call of expr's parser: day; whatever the name. Contracts: every level of expr's parser, whatever the fuel; the parser's beginning. Contract: expr.ParseAt. -/
import Derived.Test.YtlfedcbihbigoaaGreatDoorPsHI
import Derived.Test.YtlfedcbihbigoaaGreatDoorPsK
import Derived.Test.YtlfedcbihbigoaaGreatDoorValDF
set_option linter.unusedVariables false
set_option linter.unusedSimpArgs false
namespace Go.Proofs.YtlfedcbihbigoaaGreatDoor
open Go.RowKit Go.WideMaps Go.Maps
/-- What is behind the comma of day. -/
def dayT (ts : List Tok) (es : List Nd) (j : Nat) : PR :=
  if (tk ts j).kind = 1 ∧ wordsS.contains (tk ts j).text = false then
    if isSym (tk ts (j + 1)) [41] = true then .ok (es ++ [⟨20, vl0, (tk ts j).text, 0⟩]) (j + 2) else .err 3 (j + 1)
  else .err 3 j
theorem dayS_T (ts : List Tok) (es : List Nd) (j : Nat) : dayS ts es j = if isSym (tk ts j) [44] = true then dayT ts es (j + 1) else .err 3 j := rfl
theorem name_ne {x : Bytes} (h : isQualB 24 x = true) : (x == []) = false := by
  cases x with
  | nil => exact absurd h (by decide)
  | cons a r => rfl
theorem day_world {W wr : World} {P c j d nn : Nat} {A B : Option Addr} {ts : List Tok} {es : List Nd} {tk1 : Bytes} {o : Obj} (hP : P < W.heap.size) (hS : PSt XT wr P A ts c j (d + 1) 0) (hG : W.grownBy wr (some P)) (hO : wr.ownsRow (W.heap.size + 1) 53 6 (.slice B es.length nn) es.length (ndCells es)) (hN : wr.heap[W.heap.size]? = some (.cells (opNd 20).cells.toArray 53 (0, 0))) :
    PSt XT ((((wr.setCell ⟨W.heap.size, 4, none⟩ (str tk1)).setCell ⟨P, 1, none⟩ (.int .i64 ((j + 1 : Nat) : Int))).setCell ⟨P, 2, none⟩ (.int .i64 (d : Int))).alloc o).drew P A ts c (j + 1) d 0 ∧
    W.grownBy ((((wr.setCell ⟨W.heap.size, 4, none⟩ (str tk1)).setCell ⟨P, 1, none⟩ (.int .i64 ((j + 1 : Nat) : Int))).setCell ⟨P, 2, none⟩ (.int .i64 (d : Int))).alloc o).drew (some P) ∧
    ((((wr.setCell ⟨W.heap.size, 4, none⟩ (str tk1)).setCell ⟨P, 1, none⟩ (.int .i64 ((j + 1 : Nat) : Int))).setCell ⟨P, 2, none⟩ (.int .i64 (d : Int))).alloc o).drew.ownsRow (W.heap.size + 1) 53 6 (.slice B es.length nn) es.length (ndCells es) ∧
    ((((wr.setCell ⟨W.heap.size, 4, none⟩ (str tk1)).setCell ⟨P, 1, none⟩ (.int .i64 ((j + 1 : Nat) : Int))).setCell ⟨P, 2, none⟩ (.int .i64 (d : Int))).alloc o).drew.heap[W.heap.size]? = some (.cells #[.int .i64 20, .int .i64 0, .int .i64 0, str [], str tk1, .int .i64 0] 53 (0, 0)) := by
  have hNlt : W.heap.size < wr.heap.size := (Array.getElem?_eq_some_iff.1 hN).1
  have ha : Below (((wr.setCell ⟨W.heap.size, 4, none⟩ (str tk1)).setCell ⟨P, 1, none⟩ (.int .i64 ((j + 1 : Nat) : Int))).setCell ⟨P, 2, none⟩ (.int .i64 (d : Int))).heap.size (((wr.setCell ⟨W.heap.size, 4, none⟩ (str tk1)).setCell ⟨P, 1, none⟩ (.int .i64 ((j + 1 : Nat) : Int))).setCell ⟨P, 2, none⟩ (.int .i64 (d : Int))) ((((wr.setCell ⟨W.heap.size, 4, none⟩ (str tk1)).setCell ⟨P, 1, none⟩ (.int .i64 ((j + 1 : Nat) : Int))).setCell ⟨P, 2, none⟩ (.int .i64 (d : Int))).alloc o).drew := Below.drew (Below.alloc (Below.refl _ _) (Nat.le_refl _) o)
  have hs := gr_set (World.grownBy.refl wr (some W.heap.size)) 4 (str tk1)
  have b1 := heap_setCell_same _ W.heap.size 4 _ _ (str tk1) hN
  have b2 : (wr.setCell ⟨W.heap.size, 4, none⟩ (str tk1)).heap[W.heap.size]? = some (.cells #[.int .i64 20, .int .i64 0, .int .i64 0, str [], str tk1, .int .i64 0] 53 (0, 0)) := b1
  have b3 : (((wr.setCell ⟨W.heap.size, 4, none⟩ (str tk1)).setCell ⟨P, 1, none⟩ (.int .i64 ((j + 1 : Nat) : Int))).setCell ⟨P, 2, none⟩ (.int .i64 (d : Int))).heap[W.heap.size]? = some (.cells #[.int .i64 20, .int .i64 0, .int .i64 0, str [], str tk1, .int .i64 0] 53 (0, 0)) := by
    rw [Below.heap_setCell _ _ _ _ (by simp; omega), Below.heap_setCell _ _ _ _ (by simp; omega)]
    exact b2
  refine ⟨?_, ?_, ?_, ?_⟩
  · exact (((hS.gr hs (fun j hj => by injection hj with hj; omega)).setAt (j + 1)).setDepth d).below ha
  · exact gr_bel (gr_set (gr_set (hG.andThen hs (fun j hj => .inl (by injection hj with hj; omega))) 1 _) 2 _) ha
  · exact own_below (own_fr (own_fr (own_fr hO hs (by omega)) (gr_set (World.grownBy.refl _ (some P)) 1 (.int .i64 ((j + 1 : Nat) : Int))) (by omega)) (gr_set (World.grownBy.refl _ (some P)) 2 (.int .i64 (d : Int))) (by omega)) ha
  · exact (ha.block W.heap.size (Array.getElem?_eq_some_iff.1 b3).1).trans b3
set_option maxRecDepth 100000 in
set_option maxHeartbeats 1200000 in
theorem p_call_day (F P : Nat) (A : Option Addr) (ts : List Tok) (c : Nat) (hv : valT ts = true) (hlen : ts.length ≤ 1000000) (hO : LvC 29 F 0 P A ts c) (W : World) (x : Bytes) (i d : Nat) (hS : PSt XT W P A ts c (i + 2) d 0) (hi : i + 2 < ts.length) (hd : d ≤ i) (hx : x.length ≤ 64) (hF : (ts.length - (i + 2)) * 10 + 9 ≤ F) (hday : x = wDay) :
    Calls Tryz.prog 169 #[.pointer (some ⟨P, 0, none⟩), str x] W (PPost XT W P A ts c i d (callP (fun l i d => prs ts F l i d) ts x (i + 2) (d + 1))) := by
  have hP := hS.lt
  have hR : callP (fun l i d => prs ts F l i d) ts x (i + 2) (d + 1) = (if isSym (tk ts (i + 2)) [41] = true then .err 3 (i + 2) else (prs ts F 0 (i + 2) (d + 1)).bind (dayS ts)) := by unfold callP; rw [if_pos hday]
  rw [hR]
  clear hR
  have hBi : biB x = true := by rw [hday]; rfl
  have hOp : biOp x = 20 := by rw [hday]; rfl
  have HAr := hide (show arityN 20 0 = 1 from by decide)
  have hff := prs_fact hv F 0 (i + 2) (d + 1) hi (fun e => absurd e (by omega))
  have HS := hide hS
  have HO := hide hO
  clear hS hO hday
  have HOr := hide (show ∀ (X : World), PSt XT X P A ts c (i + 2) (d + 1) 0 → Calls Tryz.prog 29 #[.pointer (some ⟨P, 0, none⟩)] X (fun e2 w2 => ∃ (B2 : Option Addr) (n2 : Nat) (fs : List Nd) (k d2 : Nat) (x2 : Int), e2 = .returned (.slice B2 fs.length n2) ∧ w2.ownsRow X.heap.size 53 6 (.slice B2 fs.length n2) fs.length (ndCells fs) ∧ PSt XT w2 P A ts c k d2 x2 ∧ X.grownBy w2 (some P) ∧ i + 2 ≤ k ∧ k < ts.length ∧ fs.length ≤ k - (i + 2) ∧
      ((x2 = 0 ∧ d2 = d + 1 ∧ i + 2 < k ∧ prs ts F 0 (i + 2) (d + 1) = .ok fs k) ∨ (x2 ≠ 0 ∧ prs ts F 0 (i + 2) (d + 1) = .err x2 k ∧ d + 1 ≤ d2 ∧ d2 ≤ k))) from fun X hx =>
    (HO.out X (i + 2) (d + 1) hx hi (by omega) (fun e => absurd e (by omega)) (by omega)).mono fun e2 w2 h => ppost_open hff h)
  clear hff HO
  generalize prs ts F 0 (i + 2) (d + 1) = r0 at *
  generalize hRR : (if isSym (tk ts (i + 2)) [41] = true then PR.err 3 (i + 2) else r0.bind (dayS ts)) = R at *
  have HR := hide hRR
  clear hRR
  have HYB := hide (show ∀ w1 : World, Below (W.alloc (.cells #[.int .i64 21, .int .i64 0, .int .i64 0, str [], str x, .int .i64 0] 53)).heap.size (W.alloc (.cells #[.int .i64 21, .int .i64 0, .int .i64 0, str [], str x, .int .i64 0] 53)) w1 → w1.heap[W.heap.size]? = some (.cells #[.int .i64 21, .int .i64 0, .int .i64 0, str [], str x, .int .i64 0] 53 (0, 0)) from fun w1 hb => (hb.block W.heap.size (by simp)).trans (heap_alloc_new _ _))
  have HPY := hide (show ∀ w1 : World, Below (W.alloc (.cells #[.int .i64 21, .int .i64 0, .int .i64 0, str [], str x, .int .i64 0] 53)).heap.size (W.alloc (.cells #[.int .i64 21, .int .i64 0, .int .i64 0, str [], str x, .int .i64 0] 53)) w1 →
      PSt XT (((((((w1.setCell ⟨W.heap.size, 0, none⟩ (.int .i64 20)).setCell ⟨W.heap.size, 1, none⟩ (.int .i64 0)).setCell ⟨W.heap.size, 2, none⟩ (.int .i64 0)).setCell ⟨W.heap.size, 3, none⟩ (str [])).setCell ⟨W.heap.size, 4, none⟩ (str [])).setCell ⟨W.heap.size, 5, none⟩ (.int .i64 0)).setCell ⟨P, 2, none⟩ (.int .i64 ((d + 1 : Nat) : Int))) P A ts c (i + 2) (d + 1) 0 ∧ W.grownBy (((((((w1.setCell ⟨W.heap.size, 0, none⟩ (.int .i64 20)).setCell ⟨W.heap.size, 1, none⟩ (.int .i64 0)).setCell ⟨W.heap.size, 2, none⟩ (.int .i64 0)).setCell ⟨W.heap.size, 3, none⟩ (str [])).setCell ⟨W.heap.size, 4, none⟩ (str [])).setCell ⟨W.heap.size, 5, none⟩ (.int .i64 0)).setCell ⟨P, 2, none⟩ (.int .i64 ((d + 1 : Nat) : Int))) (some P) ∧ (((((((w1.setCell ⟨W.heap.size, 0, none⟩ (.int .i64 20)).setCell ⟨W.heap.size, 1, none⟩ (.int .i64 0)).setCell ⟨W.heap.size, 2, none⟩ (.int .i64 0)).setCell ⟨W.heap.size, 3, none⟩ (str [])).setCell ⟨W.heap.size, 4, none⟩ (str [])).setCell ⟨W.heap.size, 5, none⟩ (.int .i64 0)).setCell ⟨P, 2, none⟩ (.int .i64 ((d + 1 : Nat) : Int))).heap[W.heap.size]? = some (.cells (opNd 20).cells.toArray 53 (0, 0)) from fun w1 hb => by
    have h1 := (HS.out.below (Below.alloc (Below.refl _ W) (Nat.le_refl _) _)).below hb
    have h2 := gr_bel (gr_bel (World.grownBy.refl W (some P)) (Below.alloc (Below.refl _ W) (Nat.le_refl _) _)) hb
    have h3 := HYB.out w1 hb
    have h4 := six_grown w1 W.heap.size (.int .i64 20) (.int .i64 0) (.int .i64 0) (str []) (str []) (.int .i64 0)
    refine ⟨(h1.gr h4 (fun j hj => by injection hj with hj; omega)).setDepth (d + 1), gr_set (h2.andThen h4 (fun j hj => .inl (by injection hj with hj; omega))) 2 _, ?_⟩
    rw [Below.heap_setCell _ _ _ _ (by simp; omega)]
    exact six_set h3 _ _ _ _ _ _)
  obtain ⟨i0, hi0, hz0, hz1, hz2⟩ := info_parts Tryz.info_nd
  go_enter Tryz.func169, Tryz.ntmps169
  go_wp2_with (go_at_call 68; refine (builtin_any _).mono ?_; rintro e w1 ⟨⟨B, rfl, hown, hB1, hB2⟩, hb1⟩; have hrun := bi_run hown x (by unfold maxLen; omega); obtain ⟨n0, n1, n2, n3, n4, n5⟩ := cells6 (HYB.out w1 hb1); have hfn := free6 (HYB.out w1 hb1); have hs1 := (HS.out.below (Below.alloc (Below.refl _ W) (Nat.le_refl _) _)).below hb1; obtain ⟨c0, c1, c2, c3⟩ := hs1.cells; have hfp := hs1.free; have hPW := HPY.out w1 hb1; have HPW := hide hPW; clear hPW hs1 hown)
  refine (p_is _ P A ts c (i + 2) (d + 1) 0 HPW.out.1 hi hlen 5 [41]).mono ?_
  obtain ⟨b0, hb0, HD0⟩ : ∃ b0 : Bool, ((0 : Int) == 0 && ((tk ts (i + 2)).kind == 5 && (tk ts (i + 2)).text == [41])) = b0 ∧ Hid ((b0 = false ∧ r0.bind (dayS ts) = R) ∨ (b0 = true ∧ R = .err 3 (i + 2))) := by
    have hr := HR.out
    by_cases hs : isSym (tk ts (i + 2)) [41] = true
    · rw [if_pos hs] at hr
      exact ⟨true, hs, hide (.inr ⟨rfl, hr.symm⟩)⟩
    · rw [if_neg hs] at hr
      have hs2 : isSym (tk ts (i + 2)) [41] = false := by simpa using hs
      exact ⟨false, hs2, hide (.inl ⟨rfl, hr⟩)⟩
  rw [hb0]
  clear hb0 HR
  rintro e w2 ⟨rfl, hb2⟩
  have HS2 := hide (HPW.out.1.below hb2)
  have HG2 := hide (gr_bel HPW.out.2.1 hb2)
  have hn2 := (hb2.block W.heap.size (Array.getElem?_eq_some_iff.1 HPW.out.2.2).1).trans HPW.out.2.2
  have hz2' : W.heap.size + 1 ≤ w2.heap.size := (Array.getElem?_eq_some_iff.1 hn2).1
  have HN2 := hide hn2
  clear hn2 hb2 HPW c0 c1 c2 c3 hfp n0 n1 n2 n3 n4 n5 hfn hrun hb1 hB1 HPY HYB
  have HW := hide (fun (X : World) (hg : W.grownBy X (some P)) => (HS.out.wrd.fr hg).words (Nat.lt_of_lt_of_le hP hg.size))
  go_wp2
  go_loopw [8, 9, 10] (fun s n m wr => ∃ (B : Option Addr) (nn : Nat) (es : List Nd) (k j d' : Nat) (e : Int) (b : Bool), s = .slice B es.length nn ∧ n = .int .i64 (k : Int) ∧ m = .bool b ∧ Hid (wr.ownsRow (W.heap.size + 1) 53 6 (.slice B es.length nn) es.length (ndCells es)) ∧ Hid (PSt XT wr P A ts c j d' e) ∧ Hid (W.grownBy wr (some P)) ∧ Hid (wr.heap[W.heap.size]? = some (.cells (opNd 20).cells.toArray 53 (0, 0))) ∧ W.heap.size + 1 ≤ wr.heap.size ∧ i + 2 ≤ j ∧ j < ts.length ∧ es.length ≤ j - i ∧ k ≤ 1 ∧ Hid ((b = true ∧ k = 0 ∧ es = [] ∧ e = 0 ∧ d' = d + 1 ∧ j = i + 2 ∧ r0.bind (dayS ts) = R) ∨ (b = true ∧ k = 1 ∧ e = 0 ∧ d' = d + 1 ∧ R = dayT ts es j) ∨ (b = false ∧ k ≤ 1 ∧ e = 0 ∧ d' = d + 1 ∧ R = .err 3 j) ∨ (b = false ∧ e ≠ 0 ∧ R = .err e j ∧ d + 1 ≤ d' ∧ d' ≤ j))) (fun _ _ m wr => 2 * (ts.length - atOf P wr) + moreN m)
  case atStart =>
    refine ⟨none, 0, [], 0, i + 2, d + 1, 0, !b0, rfl, rfl, rfl, hide (own_nil _ _ _ _), HS2, HG2, HN2, hz2', Nat.le_refl _, hi, by simp, by omega, hide ?_⟩
    rcases HD0.out with ⟨rfl, h⟩ | ⟨rfl, h⟩
    · exact .inl ⟨rfl, rfl, rfl, rfl, rfl, rfl, h⟩
    · exact .inr (.inr (.inl ⟨rfl, by omega, rfl, rfl, h⟩))
  case round =>
    clear HS2 HG2 HN2 hz2' HD0
    obtain ⟨B, nn, es, k, j, d', e, b, rfl, rfl, rfl, HOw, HSr, HGr, HNr, hzr, hij, hjl, hel, hk1, HD⟩ := hrel
    obtain ⟨c0, c1, c2, c3⟩ := HSr.out.cells
    have hPr := HSr.out.lt
    have hfr := HSr.out.free
    have hatr := atOf_eq HSr.out
    cases b with
    | true =>
      rcases HD.out with ⟨_, rfl, rfl, rfl, rfl, rfl, hG2⟩ | ⟨_, rfl, rfl, rfl, hG2⟩ | ⟨h, _⟩ | ⟨h, _⟩
      rotate_left
      rotate_left
      · cases h
      · cases h
      · have HG2x := hide hG2
        clear hG2 HD
        simp only [List.length_nil] at *
        go_wp2_with fail
        refine (HOr.out wr HSr.out).mono ?_
        rintro e2 w2 ⟨B2, n2, fs, k2, d2, x2, rfl, ho2, hS2, hg2, hjk, hkl, hfl, hD2⟩
        have hoe := own_fr HOw.out hg2 (show P < W.heap.size + 1 by omega)
        have HN2 := hide ((hg2.block W.heap.size (by omega) (by intro e; injection e with e; omega)).trans HNr.out)
        have HS2 := hide hS2
        have HG2 := hide (HGr.out.trans hg2)
        have HD2 := hide hD2
        have hgw := hg2.size
        clear hS2 hg2 hD2 c0 c1 c2 c3 hfr hPr
        rcases own_addr ho2 with ⟨rfl, hf0, rfl⟩ | ⟨g2, rfl⟩
        · obtain rfl : fs = [] := List.eq_nil_of_length_eq_zero hf0
          clear ho2 hf0
          simp only [List.length_nil] at *
          go_wp2_with (at_builtin; refine wpList_append_own_none rfl _ _ _ rfl _ 53 i0 6 Tryz.underlying30 hi0 _ _ _ rfl hoe rfl ?_)
          obtain ⟨B3, hB3⟩ : ∃ B3, B3 = B := ⟨B, rfl⟩
          obtain ⟨n3, hn3⟩ : ∃ n3, n3 = nn := ⟨nn, rfl⟩
          obtain ⟨w3, hw3⟩ : ∃ w3, w3 = w2 := ⟨w2, rfl⟩
          rw [← hB3, ← hn3] at hoe
          rw [← hw3] at hoe HS2 HG2 HN2 hgw
          rw [← hB3, ← hn3, ← hw3]
          clear hB3 hn3 hw3
          have HO3 := hide (show w3.ownsRow (W.heap.size + 1) 53 6 (.slice B3 ([] : List Nd).length n3) ([] : List Nd).length (ndCells []) from hoe)
          have HS3 := HS2
          have HG3 := HG2
          have HN3 := HN2
          clear hoe HS2 HG2 HN2
          have hk3 : ([] : List Nd).length ≤ k2 - i := Nat.zero_le _
          by_cases hx2 : x2 = 0
          · rcases HD2.out with ⟨_, hdd, hjk2, hr⟩ | ⟨h, _⟩
            rotate_left
            · exact absurd hx2 h
            subst hx2 hdd
            have hG2 := HG2x.out
            rw [hr] at hG2
            simp only [PR.bind] at hG2
            rw [dayS_T] at hG2
            by_cases hs4 : isSym (tk ts k2) [44] = true
            · rw [if_pos hs4] at hG2
              have hk1 := sym_next hv hkl hs4
              have HE := hide hG2
              clear hG2
              refine (p_skip_yes w3 P A ts c k2 (d + 1) HS3.out hkl hlen 5 [44] hs4).mono ?_
              rintro e5 w5 ⟨rfl, hS5, hg5⟩
              have HO5 := hide (own_fr HO3.out hg5 (by omega))
              have HN5 := hide ((hg5.block W.heap.size (Array.getElem?_eq_some_iff.1 HN3.out).1 (by intro e; injection e with e; omega)).trans HN3.out)
              have HS5 := hide hS5
              have HG5 := hide (HG3.out.trans hg5)
              have hz5 := hg5.size
              clear hS5 hg5 hs4
              go_wp2
              have hat := atOf_eq HS5.out
              refine ⟨⟨B3, n3, [], 1, k2 + 1, d + 1, 0, true, by first | rfl | (simp; done), by first | rfl | go_num, rfl, HO5, HS5, HG5, HN5, by omega, by omega, hk1, by omega, by omega, hide (.inr (.inl ⟨rfl, rfl, rfl, rfl, HE.out.symm⟩))⟩, ?_⟩
              rw [hat, hatr]
              simp only [moreN]
              omega
            · rw [if_neg hs4] at hG2
              have HE := hide hG2
              have hsb : ((0 : Int) == 0 && ((tk ts k2).kind == 5 && (tk ts k2).text == [44])) = false := by
                have : isSym (tk ts k2) [44] = false := by simpa using hs4
                exact this
              clear hG2 hs4
              refine (p_skip_no w3 P A ts c k2 (d + 1) 0 HS3.out hkl hlen 5 [44] hsb).mono ?_
              rintro e5 w5 ⟨rfl, hb5⟩
              have HO5 := hide (own_below HO3.out hb5)
              have HN5 := hide ((hb5.block W.heap.size (Array.getElem?_eq_some_iff.1 HN3.out).1).trans HN3.out)
              have HS5 := hide (HS3.out.below hb5)
              have HG5 := hide (gr_bel HG3.out hb5)
              have hz5 := hb5.size
              clear hsb
              go_wp2
              have hat := atOf_eq HS5.out
              refine ⟨⟨B3, n3, [], 1, k2, d + 1, 0, false, by first | rfl | (simp; done), by first | rfl | go_num, rfl, HO5, HS5, HG5, HN5, by omega, by omega, hkl, hk3, by omega, hide (.inr (.inr (.inl ⟨rfl, by omega, rfl, rfl, HE.out.symm⟩)))⟩, ?_⟩
              rw [hat, hatr]
              simp only [moreN]
              omega
          · rcases HD2.out with ⟨h, _⟩ | ⟨_, hr, hd4, hd5⟩
            · exact absurd h hx2
            have hG2 := HG2x.out
            rw [hr] at hG2
            simp only [PR.bind] at hG2
            have HE := hide hG2
            have hsb : (x2 == 0 && ((tk ts k2).kind == 5 && (tk ts k2).text == [44])) = false := by rw [beq_eq_false_iff_ne.2 hx2]; rfl
            clear hG2
            refine (p_skip_no w3 P A ts c k2 d2 x2 HS3.out hkl hlen 5 [44] hsb).mono ?_
            rintro e5 w5 ⟨rfl, hb5⟩
            have HO5 := hide (own_below HO3.out hb5)
            have HN5 := hide ((hb5.block W.heap.size (Array.getElem?_eq_some_iff.1 HN3.out).1).trans HN3.out)
            have HS5 := hide (HS3.out.below hb5)
            have HG5 := hide (gr_bel HG3.out hb5)
            have hz5 := hb5.size
            clear hsb
            go_wp2
            have hat := atOf_eq HS5.out
            refine ⟨⟨B3, n3, [], 1, k2, d2, x2, false, by first | rfl | (simp; done), by first | rfl | go_num, rfl, HO5, HS5, HG5, HN5, by omega, by omega, hkl, hk3, by omega, hide (.inr (.inr (.inr ⟨rfl, hx2, HE.out.symm, hd4, hd5⟩)))⟩, ?_⟩
            rw [hat, hatr]
            simp only [moreN]
            omega
        · have hcf := (orow_cells ho2).2.2
          clear ho2
          go_wp2_with (at_builtin; refine wpList_append_own _ rfl _ _ 30 rfl (W.heap.size + 1) 53 i0 _ 6 64 Tryz.underlying30 hi0 hz0 hz1 hz2 rfl (by decide) _ _ _ rfl hoe ⟨g2, 0, none⟩ fs.length n2 (ndCells fs) rfl (ndCells_len _) hcf (nd_one _) (by unfold maxLen; omega) (by omega) (by omega) ?_; intro v3 w3 o3 g3 _; obtain ⟨B3, n3, rfl⟩ := own_form o3; rw [Nat.zero_add] at o3; have HS3 := hide (HS2.out.gr g3 (fun j hj => by have := (hoe.lt j hj).1; omega)); have HG3 := hide (HG2.out.andThen g3 (fun j hj => .inl (by have := (hoe.lt j hj).1; omega))); have HN3 := hide ((g3.block W.heap.size (Array.getElem?_eq_some_iff.1 HN2.out).1 (by intro e; have := (hoe.lt W.heap.size e.symm).1; omega)).trans HN2.out); have hz3 := g3.size; have HO3 := hide (show w3.ownsRow (W.heap.size + 1) 53 6 (.slice B3 fs.length n3) fs.length (ndCells fs) from o3); clear hcf g3 o3 hoe HS2 HG2 HN2)
          have hk3 : fs.length ≤ k2 - i := by omega
          by_cases hx2 : x2 = 0
          · rcases HD2.out with ⟨_, hdd, hjk2, hr⟩ | ⟨h, _⟩
            rotate_left
            · exact absurd hx2 h
            subst hx2 hdd
            have hG2 := HG2x.out
            rw [hr] at hG2
            simp only [PR.bind] at hG2
            rw [dayS_T] at hG2
            by_cases hs4 : isSym (tk ts k2) [44] = true
            · rw [if_pos hs4] at hG2
              have hk1 := sym_next hv hkl hs4
              have HE := hide hG2
              clear hG2
              refine (p_skip_yes w3 P A ts c k2 (d + 1) HS3.out hkl hlen 5 [44] hs4).mono ?_
              rintro e5 w5 ⟨rfl, hS5, hg5⟩
              have HO5 := hide (own_fr HO3.out hg5 (by omega))
              have HN5 := hide ((hg5.block W.heap.size (Array.getElem?_eq_some_iff.1 HN3.out).1 (by intro e; injection e with e; omega)).trans HN3.out)
              have HS5 := hide hS5
              have HG5 := hide (HG3.out.trans hg5)
              have hz5 := hg5.size
              clear hS5 hg5 hs4
              go_wp2
              have hat := atOf_eq HS5.out
              refine ⟨⟨B3, n3, fs, 1, k2 + 1, d + 1, 0, true, by first | rfl | (simp; done), by first | rfl | go_num, rfl, HO5, HS5, HG5, HN5, by omega, by omega, hk1, by omega, by omega, hide (.inr (.inl ⟨rfl, rfl, rfl, rfl, HE.out.symm⟩))⟩, ?_⟩
              rw [hat, hatr]
              simp only [moreN]
              omega
            · rw [if_neg hs4] at hG2
              have HE := hide hG2
              have hsb : ((0 : Int) == 0 && ((tk ts k2).kind == 5 && (tk ts k2).text == [44])) = false := by
                have : isSym (tk ts k2) [44] = false := by simpa using hs4
                exact this
              clear hG2 hs4
              refine (p_skip_no w3 P A ts c k2 (d + 1) 0 HS3.out hkl hlen 5 [44] hsb).mono ?_
              rintro e5 w5 ⟨rfl, hb5⟩
              have HO5 := hide (own_below HO3.out hb5)
              have HN5 := hide ((hb5.block W.heap.size (Array.getElem?_eq_some_iff.1 HN3.out).1).trans HN3.out)
              have HS5 := hide (HS3.out.below hb5)
              have HG5 := hide (gr_bel HG3.out hb5)
              have hz5 := hb5.size
              clear hsb
              go_wp2
              have hat := atOf_eq HS5.out
              refine ⟨⟨B3, n3, fs, 1, k2, d + 1, 0, false, by first | rfl | (simp; done), by first | rfl | go_num, rfl, HO5, HS5, HG5, HN5, by omega, by omega, hkl, hk3, by omega, hide (.inr (.inr (.inl ⟨rfl, by omega, rfl, rfl, HE.out.symm⟩)))⟩, ?_⟩
              rw [hat, hatr]
              simp only [moreN]
              omega
          · rcases HD2.out with ⟨h, _⟩ | ⟨_, hr, hd4, hd5⟩
            · exact absurd h hx2
            have hG2 := HG2x.out
            rw [hr] at hG2
            simp only [PR.bind] at hG2
            have HE := hide hG2
            have hsb : (x2 == 0 && ((tk ts k2).kind == 5 && (tk ts k2).text == [44])) = false := by rw [beq_eq_false_iff_ne.2 hx2]; rfl
            clear hG2
            refine (p_skip_no w3 P A ts c k2 d2 x2 HS3.out hkl hlen 5 [44] hsb).mono ?_
            rintro e5 w5 ⟨rfl, hb5⟩
            have HO5 := hide (own_below HO3.out hb5)
            have HN5 := hide ((hb5.block W.heap.size (Array.getElem?_eq_some_iff.1 HN3.out).1).trans HN3.out)
            have HS5 := hide (HS3.out.below hb5)
            have HG5 := hide (gr_bel HG3.out hb5)
            have hz5 := hb5.size
            clear hsb
            go_wp2
            have hat := atOf_eq HS5.out
            refine ⟨⟨B3, n3, fs, 1, k2, d2, x2, false, by first | rfl | (simp; done), by first | rfl | go_num, rfl, HO5, HS5, HG5, HN5, by omega, by omega, hkl, hk3, by omega, hide (.inr (.inr (.inr ⟨rfl, hx2, HE.out.symm, hd4, hd5⟩)))⟩, ?_⟩
            rw [hat, hatr]
            simp only [moreN]
            omega
      · have HE := hide hG2
        clear hG2 HD
        obtain ⟨g, off, rfl, hgP, t0, t1, t2, t3⟩ := HSr.out.tok.at_ hjl
        have hg : g < wr.heap.size := Nat.lt_trans hgP hPr
        have hnx := fun hk => tk_next hv hjl hk
        have hnm := fun hk => tk_name hv hjl hk
        have hG2 := HE.out
        clear HE
        unfold dayT at hG2
        obtain ⟨n0, n1, n2, n3, n4, n5⟩ := cells6 HNr.out
        have hfn := free6 HNr.out
        have hNlt : W.heap.size < wr.heap.size := by omega
        generalize tk ts j = t at *
        obtain ⟨tk0, tk1, tk2, tk3⟩ := t
        simp only at t0 t1 t2 t3 hG2 hnx hnm
        by_cases hk : tk0 = 1
        · subst hk
          have hj1 := hnx (by decide)
          have hnn := name_ne (hnm rfl)
          have HRv := hide (fun (X : World) (hb : Below wr.heap.size wr X) => token_Reserved_w ⟨tk1.toArray⟩ X (HW.out X (gr_bel HGr.out hb)))
          have hbs : bs ⟨tk1.toArray⟩ = tk1 := rfl
          rw [hbs] at HRv
          clear hnx hnm hbs
          by_cases hr : resB tk1 = true
          · rw [if_neg (fun h => by have h2 : resB tk1 = false := h.2; rw [hr] at h2; cases h2)] at hG2
            have HE := hide hG2
            rw [hr] at HRv
            clear hG2 hr hnn
            go_wp2
            go_region
            go_wp2_with (go_at_call 90; refine (HRv.out _ (by (repeat (first | exact Below.refl _ _ | assumption | refine Below.drew ?_ | refine below_drewN ?_ _ | refine Below.alloc ?_ (by first | omega | simp <;> omega) _ | refine Below.setCell ?_ (by first | omega | simp <;> omega) _)))).mono ?_; rintro e9 w9 ⟨rfl, rfl⟩)
            refine (p_fail _ P _ ts c j (d + 1) (HSr.out.below (by (repeat (first | exact Below.refl _ _ | assumption | refine Below.drew ?_ | refine below_drewN ?_ _ | refine Below.alloc ?_ (by first | omega | simp <;> omega) _ | refine Below.setCell ?_ (by first | omega | simp <;> omega) _)))) 3).mono ?_
            rintro e8 w8 ⟨rfl, hS8, hg8⟩
            have HS8 := hide hS8
            have HG8 := hide (World.grownBy.trans (gr_bel HGr.out (by (repeat (first | exact Below.refl _ _ | assumption | refine Below.drew ?_ | refine below_drewN ?_ _ | refine Below.alloc ?_ (by first | omega | simp <;> omega) _ | refine Below.setCell ?_ (by first | omega | simp <;> omega) _)))) hg8)
            clear hS8 hg8 c0 c1 c2 c3 hfr t0 t1 t2 t3 n0 n1 n2 n3 n4 n5 hfn HRv
            go_wp2
            go_ret
            rw [HE.out]
            exact ⟨HG8.out, [], d + 1, ⟨none, 0, rfl, own_nil _ _ _ _⟩, by omega, by simp, ⟨by omega, by omega⟩, HS8.out⟩
          · have hr : resB tk1 = false := by simpa using hr
            rw [if_pos ⟨rfl, hr⟩] at hG2
            have HE := hide hG2
            rw [hr] at HRv
            have HDW := hide (day_world (tk1 := tk1) (o := .cells #[.int .i64 1, str tk1, .int .i64 tk2, .int .i64 tk3] 70) hP HSr.out HGr.out HOw.out HNr.out)
            clear hG2 hr
            go_wp2
            go_region
            go_wp2_with (go_at_call 90; refine (HRv.out _ (by (repeat (first | exact Below.refl _ _ | assumption | refine Below.drew ?_ | refine below_drewN ?_ _ | refine Below.alloc ?_ (by first | omega | simp <;> omega) _ | refine Below.setCell ?_ (by first | omega | simp <;> omega) _)))).mono ?_; rintro e9 w9 ⟨rfl, rfl⟩)
            by_cases hs5 : isSym (tk ts (j + 1)) [41] = true
            · have hj2 := sym_next hv hj1 hs5
              have hG3 := HE.out
              rw [if_pos hs5] at hG3
              have HE2 := hide hG3
              have hst : ((0 : Int) == 0 && ((tk ts (j + 1)).kind == 5 && (tk ts (j + 1)).text == [41])) = true := hs5
              clear hG3 hs5 HE
              refine (p_is _ P _ ts c (j + 1) d 0 HDW.out.1 hj1 hlen 5 [41]).mono ?_
              rw [hst]
              rintro e5 w5 ⟨rfl, hb5⟩
              have HS5 := hide (PSt.below HDW.out.1 hb5)
              have HG5 := hide (gr_bel HDW.out.2.1 hb5)
              have HO5 := hide (own_below HDW.out.2.2.1 hb5)
              have hq5 := HDW.out.2.2.2
              have hz6 := hb5.size
              have hz7 := (Array.getElem?_eq_some_iff.1 hq5).1
              have HN5 := hide ((hb5.block W.heap.size hz7).trans hq5)
              clear hq5 hst c0 c1 c2 c3 hfr t0 t1 t2 t3 n0 n1 n2 n3 n4 n5 hfn HRv
              obtain ⟨n0, n1, n2, n3, n4, n5⟩ := cells6 HN5.out
              have hz5 : W.heap.size < w5.heap.size := (Array.getElem?_eq_some_iff.1 HN5.out).1
              clear hz6 hz7 hb5
              go_wp2_with (first
                | (go_at_call 35; refine (expr_Arity_any 20 0 0 0 ⟨#[]⟩ ⟨tk1.toArray⟩ _).mono ?_; rw [HAr.out]; rintro e6 w6 ⟨rfl, hb6⟩; obtain ⟨n0, n1, n2, n3, n4, n5⟩ := cells6 ((hb6.block W.heap.size (by omega)).trans HN5.out); have hS6 := HS5.out.below hb6; obtain ⟨c0, c1, c2, c3⟩ := hS6.cells; have hfr := hS6.free; have hP6 := hS6.lt; have HS6 := hide (hS6.setAt (j + 1 + 1)); have HG6 := hide (gr_set (gr_bel HG5.out hb6) 1 (.int .i64 ((j + 1 + 1 : Nat) : Int))); have HO6 := hide (own_fr (own_below HO5.out hb6) (gr_set (World.grownBy.refl w6 (some P)) 1 (.int .i64 ((j + 1 + 1 : Nat) : Int))) (by omega)); have hz6 := hb6.size; clear hS6)
                | (at_builtin; refine wpList_append_own _ rfl _ _ 30 rfl (W.heap.size + 1) 53 i0 _ 6 64 Tryz.underlying30 hi0 hz0 hz1 hz2 rfl (by decide) _ _ _ rfl (HO6.out.alloc _) ⟨w6.heap.size, 0, none⟩ 1 1 [.int .i64 20, .int .i64 0, .int .i64 0, str [], str tk1, .int .i64 0] rfl rfl (by exact cells_6 (hn_at (by simp))) (by simp [Value.oneCell']) (by unfold maxLen; omega) (by omega) (by simp; omega) ?_; intro v7 w7 o7 g7 _; obtain ⟨B7, n7, rfl⟩ := own_form o7; have HS7 := hide ((HS6.out.below (Below.alloc (Below.refl _ _) (Nat.le_refl _) _)).gr g7 (fun j hj => by have := (HO6.out.lt j hj).1; omega)); have HG7 := hide ((gr_bel HG6.out (Below.alloc (Below.refl _ _) (Nat.le_refl _) _)).andThen g7 (fun j hj => .inl (by have := (HO6.out.lt j hj).1; omega))); have HO7 := hide (own_nd1 (nd := (⟨20, vl0, tk1, 0⟩ : Nd)) o7); clear o7 g7))
              go_ret
              rw [HE2.out]
              exact ⟨HG7.out, ⟨B7, n7, by first | rfl | (simp; done), own_low HO7.out (by omega)⟩, HS7.out⟩
            · have hG3 := HE.out
              rw [if_neg hs5] at hG3
              have HE2 := hide hG3
              have hsb : ((0 : Int) == 0 && ((tk ts (j + 1)).kind == 5 && (tk ts (j + 1)).text == [41])) = false := by
                have : isSym (tk ts (j + 1)) [41] = false := by simpa using hs5
                exact this
              clear hG3 hs5 HE
              refine (p_is _ P _ ts c (j + 1) d 0 HDW.out.1 hj1 hlen 5 [41]).mono ?_
              rw [hsb]
              rintro e5 w5 ⟨rfl, hb5⟩
              have HS5 := hide (PSt.below HDW.out.1 hb5)
              have HG5 := hide (gr_bel HDW.out.2.1 hb5)
              clear hsb c0 c1 c2 c3 hfr t0 t1 t2 t3 n0 n1 n2 n3 n4 n5 hfn HRv hb5
              go_wp2_with fail
              refine (p_fail w5 P _ ts c (j + 1) d HS5.out 3).mono ?_
              rintro e8 w8 ⟨rfl, hS8, hg8⟩
              have HS8 := hide hS8
              have HG8 := hide (HG5.out.trans hg8)
              clear hS8 hg8
              go_wp2
              go_ret
              rw [HE2.out]
              exact ⟨HG8.out, [], d, ⟨none, 0, rfl, own_nil _ _ _ _⟩, by omega, by simp, ⟨by omega, by omega⟩, HS8.out⟩
        · rw [if_neg (fun h => hk h.1)] at hG2
          have HE := hide hG2
          have hkb : (tk0 == 1) = false := beq_eq_false_iff_ne.2 hk
          clear hG2 hk hnx hnm
          go_wp2
          go_region
          go_wp2_with fail
          refine (p_fail _ P _ ts c j (d + 1) (HSr.out.below (by (repeat (first | exact Below.refl _ _ | assumption | refine Below.drew ?_ | refine below_drewN ?_ _ | refine Below.alloc ?_ (by first | omega | simp <;> omega) _ | refine Below.setCell ?_ (by first | omega | simp <;> omega) _)))) 3).mono ?_
          rintro e8 w8 ⟨rfl, hS8, hg8⟩
          have HS8 := hide hS8
          have HG8 := hide (World.grownBy.trans (gr_bel HGr.out (by (repeat (first | exact Below.refl _ _ | assumption | refine Below.drew ?_ | refine below_drewN ?_ _ | refine Below.alloc ?_ (by first | omega | simp <;> omega) _ | refine Below.setCell ?_ (by first | omega | simp <;> omega) _)))) hg8)
          clear hS8 hg8 c0 c1 c2 c3 hfr t0 t1 t2 t3 n0 n1 n2 n3 n4 n5 hfn
          go_wp2
          go_ret
          rw [HE.out]
          exact ⟨HG8.out, [], d + 1, ⟨none, 0, rfl, own_nil _ _ _ _⟩, by omega, by simp, ⟨by omega, by omega⟩, HS8.out⟩
    | false =>
      obtain ⟨d3, rfl⟩ : ∃ d3, d' = d3 + 1 := ⟨d' - 1, by
        rcases HD.out with ⟨h, _⟩ | ⟨h, _⟩ | ⟨_, _, _, h, _⟩ | ⟨_, _, _, h, _⟩
        · cases h
        · cases h
        · omega
        · omega⟩
      have hdd4 : d ≤ d3 ∧ d3 ≤ j := by
        rcases HD.out with ⟨h, _⟩ | ⟨h, _⟩ | ⟨_, _, _, h, _⟩ | ⟨_, _, _, h1, h2⟩
        · cases h
        · cases h
        · omega
        · omega
      have hd3 : d3 ≤ 1000000 := by omega
      have HS4 := hide (HSr.out.setDepth d3)
      have HG4 := hide (gr_set HGr.out 2 (.int .i64 (d3 : Int)))
      have HN4 := hide (show (wr.setCell ⟨P, 2, none⟩ (.int .i64 (d3 : Int))).heap[W.heap.size]? = some (.cells (opNd 20).cells.toArray 53 (0, 0)) from (Below.heap_setCell _ _ _ _ (by simp; omega)).trans HNr.out)
      have hX4 : ∃ X, X = wr.setCell ⟨P, 2, none⟩ (.int .i64 (d3 : Int)) := ⟨_, rfl⟩
      obtain ⟨X4, hX4⟩ := hX4
      rw [← hX4] at HS4 HG4 HN4
      have HX4 := hide hX4.symm
      clear hX4
      have hz4 : W.heap.size < X4.heap.size := (Array.getElem?_eq_some_iff.1 HN4.out).1
      by_cases he : e = 0
      rotate_left
      · rcases HD.out with ⟨h, _⟩ | ⟨h, _⟩ | ⟨_, _, h, _⟩ | ⟨_, _, hE, _⟩
        · cases h
        · cases h
        · exact absurd h he
        have HE := hide hE
        have hsb : (e == 0 && ((tk ts j).kind == 5 && (tk ts j).text == [41])) = false := by rw [beq_eq_false_iff_ne.2 he]; rfl
        clear hE
        go_wp2_with fail
        rw [HX4.out]
        refine (p_is X4 P A ts c j d3 e HS4.out hjl hlen 5 [41]).mono ?_
        rw [hsb]
        rintro e5 w5 ⟨rfl, hb5⟩
        have HS5 := hide (HS4.out.below hb5)
        have HG5 := hide (gr_bel HG4.out hb5)
        clear hsb c0 c1 c2 c3 hfr
        go_wp2_with fail
        refine (p_fail_no w5 P A ts c j d3 e HS5.out he 3).mono ?_
        rintro e6 w6 ⟨rfl, hb6⟩
        have HS6 := hide (HS5.out.below hb6)
        have HG6 := hide (gr_bel HG5.out hb6)
        go_wp2
        go_ret
        rw [HE.out]
        exact ⟨HG6.out, [], d3, ⟨none, 0, rfl, own_nil _ _ _ _⟩, by omega, by simp, hdd4, HS6.out⟩
      subst he
      have HE := hide (show R = .err 3 j from by
        rcases HD.out with ⟨h, _⟩ | ⟨h, _⟩ | ⟨_, _, _, _, h⟩ | ⟨_, h, _⟩
        · cases h
        · cases h
        · exact h
        · exact absurd rfl h)
      by_cases hs : isSym (tk ts j) [41] = true
      rotate_left
      · have hsb : ((0 : Int) == 0 && ((tk ts j).kind == 5 && (tk ts j).text == [41])) = false := by
          have : isSym (tk ts j) [41] = false := by simpa using hs
          exact this
        clear hs HD
        go_wp2_with fail
        rw [HX4.out]
        refine (p_is X4 P A ts c j d3 0 HS4.out hjl hlen 5 [41]).mono ?_
        rw [hsb]
        rintro e5 w5 ⟨rfl, hb5⟩
        have HS5 := hide (HS4.out.below hb5)
        have HG5 := hide (gr_bel HG4.out hb5)
        clear hsb c0 c1 c2 c3 hfr
        go_wp2_with fail
        refine (p_fail w5 P A ts c j d3 HS5.out 3).mono ?_
        rintro e8 w8 ⟨rfl, hS8, hg8⟩
        have HS8 := hide hS8
        have HG8 := hide ((HG5.out).trans hg8)
        clear hS8 hg8
        go_wp2
        go_ret
        rw [HE.out]
        exact ⟨HG8.out, [], d3, ⟨none, 0, rfl, own_nil _ _ _ _⟩, by omega, by simp, hdd4, HS8.out⟩
      have hst : ((0 : Int) == 0 && ((tk ts j).kind == 5 && (tk ts j).text == [41])) = true := hs
      clear hs HD
      have hk01 : k = 0 ∨ k = 1 := by omega
      clear hk1
      rcases hk01 with rfl | rfl
      all_goals
        go_wp2_with fail
        rw [HX4.out]
        refine (p_is X4 P A ts c j d3 0 HS4.out hjl hlen 5 [41]).mono ?_
        rw [hst]
        rintro e5 w5 ⟨rfl, hb5⟩
        have HS5 := hide (HS4.out.below hb5)
        have HG5 := hide (gr_bel HG4.out hb5)
        have hn5 := (hb5.block W.heap.size hz4).trans HN4.out
        have HN5 := hide hn5
        have hz5 := hb5.size
        clear hst c0 c1 c2 c3 hfr hn5 HX4 HS4 HG4 HN4 HSr HGr HOw HNr hatr
        obtain ⟨n0, n1, n2, n3, n4, n5⟩ := cells6 HN5.out
        go_wp2_with (go_at_call 35; refine (expr_Arity_any 20 0 0 0 ⟨#[]⟩ ⟨#[]⟩ _).mono ?_; rw [HAr.out]; rintro e6 w6 ⟨rfl, hb6⟩; obtain ⟨n0, n1, n2, n3, n4, n5⟩ := cells6 ((hb6.block W.heap.size (by omega)).trans HN5.out); have HS6 := hide (HS5.out.below hb6); have HG6 := hide (gr_bel HG5.out hb6))
        refine (p_fail w6 P A ts c j d3 HS6.out 3).mono ?_
        rintro e8 w8 ⟨rfl, hS8, hg8⟩
        have HS8 := hide hS8
        have HG8 := hide ((HG6.out).trans hg8)
        clear hS8 hg8
        go_wp2
        go_ret
        rw [HE.out]
        exact ⟨HG8.out, [], d3, ⟨none, 0, rfl, own_nil _ _ _ _⟩, by omega, by simp, hdd4, HS8.out⟩
theorem p_call (F P : Nat) (A : Option Addr) (ts : List Tok) (c : Nat) (hv : valT ts = true) (hlen : ts.length ≤ 1000000) (hO : LvC 29 F 0 P A ts c) : CallC F P A ts c := by
  intro W x i d hS hi hd hx hF
  by_cases hday : x = wDay
  · exact p_call_day F P A ts c hv hlen hO W x i d hS hi hd hx hF hday
  · rcases hb : builtS x with _ | ⟨o, a⟩
    · exact p_call_n F P A ts c hv hlen hO W x hb i d hS hi hd hx hF hday
    · exact p_call_b F P A ts c hv hlen hO W x o a hb i d hS hi hd hx hF hday
end Go.Proofs.YtlfedcbihbigoaaGreatDoor

namespace Go.Proofs.YtlfedcbihbigoaaGreatDoor
open Go.RowKit
structure AllC (F P : Nat) (A : Option Addr) (ts : List Tok) (c : Nat) : Prop where
  or : LvC 29 F 0 P A ts c
  no : LvC 52 F 2 P A ts c
  cmp : LvC 86 F 3 P A ts c
  un : LvC 123 F 7 P A ts c
  pr : LvC 153 F 8 P A ts c
  n0 : ChC 52 F 0 2 P A ts c
  n1 : ChC 52 F 1 1 P A ts c
  n2 : ChC 52 F 2 0 P A ts c
  u4 : ChC 123 F 4 3 P A ts c
  u5 : ChC 123 F 5 2 P A ts c
  u6 : ChC 123 F 6 1 P A ts c
  u7 : ChC 123 F 7 0 P A ts c
theorem p_all (P : Nat) (A : Option Addr) (ts : List Tok) (c : Nat) (hv : valT ts = true) (hlen : ts.length ≤ 1000000) : ∀ F, AllC F P A ts c
  | 0 => by
    constructor
    all_goals first
      | (intro W i d hS hi hd h8 hF; exfalso; omega)
      | (intro W i d Lv hS hi hd hL hF; exfalso; omega)
  | F + 1 => by
    have ih := p_all P A ts c hv hlen F
    have hno := p_not F P A ts c hv hlen ih.no ih.cmp
    have hcmp := p_compare F P A ts c hv hlen ih.u4
    have hun := p_unary F P A ts c hv hlen ih.un ih.pr
    have hpr := p_primary F P A ts c hv hlen ih.or (p_call F P A ts c hv hlen ih.or)
    have hn2 := chain_zero_not (F + 1) 2 P A ts c hno (by decide)
    have hn1 := chain_succ 52 F 1 0 P A ts c hv hlen (by decide) ih.n2
    have hn0 := chain_succ 52 F 0 1 P A ts c hv hlen (by decide) ih.n1
    have hu7 := chain_zero_unary (F + 1) 7 P A ts c hun (by decide)
    have hu6 := chain_succ 123 F 6 0 P A ts c hv hlen (by decide) ih.u7
    have hu5 := chain_succ 123 F 5 1 P A ts c hv hlen (by decide) ih.u6
    have hu4 := chain_succ 123 F 4 2 P A ts c hv hlen (by decide) ih.u5
    exact ⟨p_or (F + 1) P A ts c hn0, hno, hcmp, hun, hpr, hn0, hn1, hn2, hu4, hu5, hu6, hu7⟩
end Go.Proofs.YtlfedcbihbigoaaGreatDoor

namespace Go.Proofs.YtlfedcbihbigoaaGreatDoor
open Go.RowKit
/-- What ParseAt answers: the nodes, the place, the error. -/
def paS (ts : List Tok) (a : Int) : List Nd × Int × Int :=
  if valT ts = false then ([], 0, 8)
  else if a < 0 ∨ (ts.length : Int) ≤ a then ([], 0, 1)
  else match prs ts ((ts.length - a.toNat) * 10 + 9) 0 a.toNat 0 with
    | .ok es j => if validE es = 0 then (es, (j : Int), 0) else ([], (j : Int), validE es)
    | .err x j => ([], (j : Int), x)
    | .out => ([], 0, 0)
def PaRes (w w' : World) (r : List Nd × Int × Int) (e : Ending) : Prop := ∃ (B : Option Addr) (n : Nat), e = .returned (.tuple #[.slice B r.1.length n, .int .i64 r.2.1, .int .i64 r.2.2]) ∧ w'.ownsRow w.heap.size 53 6 (.slice B r.1.length n) r.1.length (ndCells r.1)
theorem below_of_gr {B P : Nat} {w X X' : World} (h : X.grownBy X' (some P)) (hw : Below B w X) (hB : B ≤ P) (hX : B ≤ X.heap.size) : Below B w X' :=
  ⟨h.os.trans hw.os, h.tape.trans hw.tape, h.output.trans hw.output, Nat.le_trans hw.size h.size, fun k hk => (h.block k (by omega) (by intro e; injection e with e; omega)).trans (hw.block k hk)⟩
theorem TokP_of {w : World} {A : Option Addr} {ts : List Tok} (h : ToksAt w A ts) (h0 : 0 < ts.length) : TokP w w.heap.size A ts := by
  rcases h with rfl | ⟨g, off, hA, hg, hc⟩
  · simp at h0
  · exact ⟨g, off, hA, hg, hc⟩
set_option maxRecDepth 100000 in
set_option maxHeartbeats 2000000 in
theorem expr_ParseAt_any (A : Option Addr) (ts : List Tok) (c : Nat) (a : Int) (w : World) (hG : Glob w) (hA : ToksAt w A ts) (hl : ts.length ≤ 1000000) (hx : ∀ j (h : j < ts.length), ts[j].text.length ≤ maxLen) :
    Calls Tryz.prog 13 #[.slice A ts.length c, .int .i64 a] w fun e w' => PaRes w w' (paS ts a) e ∧ Below w.heap.size w w' := by
  have HV := hide (token_Validate_any A ts c w hG hA hl hx)
  have HG := hide hG
  have HA := hide hA
  clear hG hA hx
  by_cases hv : valT ts = false
  · have hE : valE ts = 8 := by unfold valE; rw [hv]; rfl
    have HP := hide (show paS ts a = ([], 0, 8) from by unfold paS; rw [if_pos hv])
    rw [hE] at HV
    clear hv hE
    go_enter Tryz.func13, Tryz.ntmps13
    go_wp2_with fail
    refine HV.out.mono ?_
    rintro e w1 ⟨rfl, hb1⟩
    go_wp2
    go_ret3
    rw [HP.out]
    exact ⟨⟨none, 0, rfl, own_nil _ _ _ _⟩, hb1⟩
  have hvt : valT ts = true := by simpa using hv
  have hE : valE ts = 0 := by unfold valE; rw [hvt]; rfl
  rw [hE] at HV
  clear hE
  by_cases hr : a < 0 ∨ (ts.length : Int) ≤ a
  · have HP := hide (show paS ts a = ([], 0, 1) from by unfold paS; rw [if_neg hv, if_pos hr])
    clear hv hvt
    rcases hr with h | h
    all_goals
      go_enter Tryz.func13, Tryz.ntmps13
      go_wp2_with fail
      refine HV.out.mono ?_
      rintro e w1 ⟨rfl, hb1⟩
      go_wp2
      go_ret3
      rw [HP.out]
      exact ⟨⟨none, 0, rfl, own_nil _ _ _ _⟩, hb1⟩
  obtain ⟨i, rfl⟩ : ∃ i : Nat, a = (i : Int) := ⟨a.toNat, by omega⟩
  have hi : i < ts.length := by omega
  have HP := hide (show paS ts (i : Int) = (match prs ts ((ts.length - i) * 10 + 9) 0 i 0 with
    | .ok es j => if validE es = 0 then (es, (j : Int), 0) else ([], (j : Int), validE es)
    | .err x j => ([], (j : Int), x)
    | .out => ([], 0, 0)) from by unfold paS; rw [if_neg hv, if_neg hr]; rfl)
  have hf := prs_fact hvt ((ts.length - i) * 10 + 9) 0 i 0 hi (fun e => absurd e (by omega))
  clear hv hr
  have HOr := hide (fun (P : Nat) => (p_all P A ts c hvt hl ((ts.length - i) * 10 + 9)).or)
  have HSt := hide (show ∀ w1 : World, Below w.heap.size w w1 → PSt XT (w1.alloc (.cells #[.slice A ts.length c, .int .i64 i, .int .i64 0, .int .i64 0] XT)) w1.heap.size A ts c i 0 0 from fun w1 hb =>
    ⟨heap_alloc_new w1 _, (TokP_of (HA.out.below hb) (by omega)).fr (grown_of_below (Below.alloc (Below.refl _ w1) (Nat.le_refl _) _)), (WrdP.of_words (HG.out.below hb).words).fr (grown_of_below (Below.alloc (Below.refl _ w1) (Nat.le_refl _) _))⟩)
  clear hvt
  go_enter Tryz.func13, Tryz.ntmps13
  go_wp2_with fail
  refine HV.out.mono ?_
  rintro e w1 ⟨rfl, hb1⟩
  go_wp2_with fail
  refine (HOr.out w1.heap.size _ i 0 (HSt.out w1 hb1) hi (Nat.zero_le _) (fun e => absurd e (by omega)) (by omega)).mono ?_
  intro e2 w2 h2
  obtain ⟨B, n, es, j, d', x, rfl, ho2, hS2, hg2, hij, hjl, hel, hD2⟩ := ppost_open hf h2
  have hbw : Below w.heap.size w w2 := below_of_gr hg2 (hb1.alloc hb1.size _) hb1.size (by have := hb1.size; simp; omega)
  have hz1 := hb1.size
  have hz2 := hg2.size
  simp at hz2
  have HO2 := hide (own_low ho2 (b2 := w.heap.size) (by simp; omega))
  have HO2b := hide (own_low ho2 (b2 := w1.heap.size + 1) (by simp))
  have HNm := hide (show prs ts ((ts.length - i) * 10 + 9) 0 i 0 = .ok es j → NamesOk es from fun h => by rw [h] at hf; exact hf.2.2.2)
  have HS2 := hide hS2
  have HD2 := hide hD2
  clear h2 ho2 hg2 hD2 hf HOr HSt HV
  obtain ⟨c0, c1, c2, c3⟩ := hS2.cells
  have hP2 := hS2.lt
  have hfr := hS2.free
  clear hS2
  by_cases hx : x = 0
  · rcases HD2.out with ⟨_, hdd, hij2, hr⟩ | ⟨h, _⟩
    rotate_left
    · exact absurd hx h
    subst hx
    have HR := hide hr
    have HVe := hide (expr_Validate_any B es n w2 (HS2.out.wrd.words hP2) (NdsAt_of_own HO2.out) (by omega) (HNm.out hr))
    clear hr hdd
    go_wp2_with fail
    refine HVe.out.mono ?_
    rintro e3 w3 ⟨rfl, hb3⟩
    have HS3 := HS2.out.below hb3
    clear c0 c1 c2 c3 hfr
    obtain ⟨c0, c1, c2, c3⟩ := HS3.cells
    have hP3 := HS3.lt
    have hfr := HS3.free
    have hz3 := hb3.size
    have HO3 := hide (own_low (b2 := w.heap.size) (own_fr (own_below HO2b.out hb3) (gr_set (World.grownBy.refl w3 (some w1.heap.size)) 3 (.int .i64 (validE es))) (by omega)) (by omega))
    clear HS3
    have HPv := hide (show paS ts (i : Int) = (if validE es = 0 then (es, (j : Int), 0) else ([], (j : Int), validE es)) from by rw [HP.out, HR.out])
    have hbw3 : Below w.heap.size w w3 := hbw.trans (hb3.mono (by have := hbw.size; omega))
    by_cases hve : validE es = 0
    · have HPx := hide (show paS ts (i : Int) = (es, (j : Int), 0) from by rw [HPv.out, if_pos hve])
      rw [hve] at HO3 ⊢
      clear hve HVe HPv
      go_wp2
      go_big_quiet (fail)
      go_wp2
      go_ret3
      rw [HPx.out]
      exact ⟨⟨B, n, rfl, own_below HO3.out (below_drewN (Below.refl _ _) _)⟩, by (repeat (first | exact Below.refl _ _ | assumption | refine Below.drew ?_ | refine below_drewN ?_ _ | refine Below.alloc ?_ (by first | omega | simp <;> omega) _ | refine Below.setCell ?_ (by first | omega | simp <;> omega) _))⟩
    · have HPx := hide (show paS ts (i : Int) = ([], (j : Int), validE es) from by rw [HPv.out, if_neg hve])
      have hvb : (validE es == 0) = false := beq_eq_false_iff_ne.2 hve
      have hvn : (validE es != 0) = true := by simpa using hve
      clear HVe HPv HO3 hve
      generalize validE es = v at *
      go_wp2
      go_big_quiet (fail)
      go_wp2
      go_ret3
      rw [HPx.out]
      exact ⟨⟨none, 0, rfl, own_nil _ _ _ _⟩, by (repeat (first | exact Below.refl _ _ | assumption | refine Below.drew ?_ | refine below_drewN ?_ _ | refine Below.alloc ?_ (by first | omega | simp <;> omega) _ | refine Below.setCell ?_ (by first | omega | simp <;> omega) _))⟩
  · rcases HD2.out with ⟨h, _⟩ | ⟨_, hr, hd4⟩
    · exact absurd h hx
    have HPx := hide (show paS ts (i : Int) = ([], (j : Int), x) from by rw [HP.out, hr])
    have hxb : (x == 0) = false := beq_eq_false_iff_ne.2 hx
    have hxn : (x != 0) = true := by simpa using hx
    clear hr hx
    go_wp2
    go_big_quiet (fail)
    go_wp2
    go_ret3
    rw [HPx.out]
    exact ⟨⟨none, 0, rfl, own_nil _ _ _ _⟩, by (repeat (first | exact Below.refl _ _ | assumption | refine Below.drew ?_ | refine below_drewN ?_ _ | refine Below.alloc ?_ (by first | omega | simp <;> omega) _ | refine Below.setCell ?_ (by first | omega | simp <;> omega) _))⟩
end Go.Proofs.YtlfedcbihbigoaaGreatDoor
