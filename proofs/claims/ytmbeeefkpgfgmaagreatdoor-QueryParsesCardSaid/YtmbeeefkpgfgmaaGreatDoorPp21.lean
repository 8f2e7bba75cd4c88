/- Parts of the proof. -/
import Derived.Test.YtmbeeefkpgfgmaaGreatDoorPp20
import Derived.Maps.RangeWalk
set_option linter.unusedVariables false
set_option linter.unusedSimpArgs false
set_option maxHeartbeats 4000000
namespace Go.Proofs.YtmbeeefkpgfgmaaGreatDoor
open Go.Proofs.Tryz
section
open Go.RowKit Go.WideMaps Go.Maps
def s_m (ts : List Tok) (es : List Nd) (j : Nat) : PR :=
 if (tk ts j).kind = 1 ∧ a_J.contains (tk ts j).text = false then
  if a_9 (tk ts (j + 1)) [41] = true then .ok (es ++ [⟨20, vl0, (tk ts j).text, 0⟩]) (j + 2) else .err 3 (j + 1)
 else .err 3 j
theorem q_S (ts : List Tok) (es : List Nd) (j : Nat) : k_O ts es j = if a_9 (tk ts j) [44] = true then s_m ts es (j + 1) else .err 3 j := rfl
theorem r_C {x : a_3} (h : a_K 24 x = true) : (x == []) = false := by
 cases x with
 | nil => exact absurd h d_
 | cons a r => rfl
theorem o_x {W wr : World} {P c j d nn : Nat} {A B : Option Addr} {ts : List Tok} {es : List Nd} {tk1 : a_3} {o : Obj} (hP : P < W.heap.size) (hS : PSt XT wr P A ts c j (d + 1) 0) (hG : W.grownBy wr (some P)) (hO : wr.ownsRow (W.heap.size + 1) 116 6 (.slice B es.length nn) es.length (a_a es)) (hN : wr.heap[W.heap.size]? = some (.cells (c_3 20).cells.toArray 116 (0, 0))) :
  PSt XT ((((wr.setCell ⟨W.heap.size, 4, none⟩ (str tk1)).setCell ⟨P, 1, none⟩ (.int .i64 ((j + 1 : Nat) : Int))).setCell ⟨P, 2, none⟩ (.int .i64 (d : Int))).alloc o).drew P A ts c (j + 1) d 0 ∧
  W.grownBy ((((wr.setCell ⟨W.heap.size, 4, none⟩ (str tk1)).setCell ⟨P, 1, none⟩ (.int .i64 ((j + 1 : Nat) : Int))).setCell ⟨P, 2, none⟩ (.int .i64 (d : Int))).alloc o).drew (some P) ∧
  ((((wr.setCell ⟨W.heap.size, 4, none⟩ (str tk1)).setCell ⟨P, 1, none⟩ (.int .i64 ((j + 1 : Nat) : Int))).setCell ⟨P, 2, none⟩ (.int .i64 (d : Int))).alloc o).drew.ownsRow (W.heap.size + 1) 116 6 (.slice B es.length nn) es.length (a_a es) ∧
  ((((wr.setCell ⟨W.heap.size, 4, none⟩ (str tk1)).setCell ⟨P, 1, none⟩ (.int .i64 ((j + 1 : Nat) : Int))).setCell ⟨P, 2, none⟩ (.int .i64 (d : Int))).alloc o).drew.heap[W.heap.size]? = some (.cells #[.int .i64 20, .int .i64 0, .int .i64 0, str [], str tk1, .int .i64 0] 116 (0, 0)) := by
 have hNlt : W.heap.size < wr.heap.size := (Array.getElem?_eq_some_iff.1 hN).1
 have ha : Below (((wr.setCell ⟨W.heap.size, 4, none⟩ (str tk1)).setCell ⟨P, 1, none⟩ (.int .i64 ((j + 1 : Nat) : Int))).setCell ⟨P, 2, none⟩ (.int .i64 (d : Int))).heap.size (((wr.setCell ⟨W.heap.size, 4, none⟩ (str tk1)).setCell ⟨P, 1, none⟩ (.int .i64 ((j + 1 : Nat) : Int))).setCell ⟨P, 2, none⟩ (.int .i64 (d : Int))) ((((wr.setCell ⟨W.heap.size, 4, none⟩ (str tk1)).setCell ⟨P, 1, none⟩ (.int .i64 ((j + 1 : Nat) : Int))).setCell ⟨P, 2, none⟩ (.int .i64 (d : Int))).alloc o).drew := Below.drew (Below.alloc (b_ _ _) (l_ _) o)
 have hs := a_d (g_ wr (some W.heap.size)) 4 (str tk1)
 have b1 := heap_setCell_same _ W.heap.size 4 _ _ (str tk1) hN
 have b2 : (wr.setCell ⟨W.heap.size, 4, none⟩ (str tk1)).heap[W.heap.size]? = some (.cells #[.int .i64 20, .int .i64 0, .int .i64 0, str [], str tk1, .int .i64 0] 116 (0, 0)) := b1
 have b3 : (((wr.setCell ⟨W.heap.size, 4, none⟩ (str tk1)).setCell ⟨P, 1, none⟩ (.int .i64 ((j + 1 : Nat) : Int))).setCell ⟨P, 2, none⟩ (.int .i64 (d : Int))).heap[W.heap.size]? = some (.cells #[.int .i64 20, .int .i64 0, .int .i64 0, str [], str tk1, .int .i64 0] 116 (0, 0)) := by
  rw [Below.heap_setCell _ _ _ _ m_, Below.heap_setCell _ _ _ _ m_]
  exact b2
 refine ⟨?_, ?_, ?_, ?_⟩
 ·exact (((hS.gr hs (fun j hj => by injection hj with hj; omega)).setAt (j + 1)).setDepth d).below ha
 ·exact a_h (a_d (a_d (hG.andThen hs (fun j hj => .inl (by injection hj with hj; omega))) 1 _) 2 _) ha
 ·exact a_8 (a_v (a_v (a_v hO hs o_) (a_d (g_ _ (some P)) 1 (.int .i64 ((j + 1 : Nat) : Int))) o_) (a_d (g_ _ (some P)) 2 (.int .i64 (d : Int))) o_) ha
 ·exact (ha.block W.heap.size (Array.getElem?_eq_some_iff.1 b3).1).trans b3
set_option maxRecDepth 100000
theorem m_I (F P : Nat) (A : Option Addr) (ts : List Tok) (c : Nat) (hv : a_O ts = true) (hlen : ts.length ≤ 1000000) (hO : LvC 267 F 0 P A ts c) (W : World) (x : a_3) (i d : Nat) (hS : PSt XT W P A ts c (i + 2) d 0) (hi : i + 2 < ts.length) (hd : d ≤ i) (hx : x.length ≤ 64) (hF : (ts.length - (i + 2)) * 10 + 9 ≤ F) (hday : x = m_0) :
  Calls prog 338 #[.pointer (some ⟨P, 0, none⟩), str x] W (d_e XT W P A ts c i d (e_G (fun l i d => prs ts F l i d) ts x (i + 2) (d + 1))) := by
 have hP := hS.lt
 have hR : e_G (fun l i d => prs ts F l i d) ts x (i + 2) (d + 1) = (if a_9 (tk ts (i + 2)) [41] = true then .err 3 (i + 2) else (prs ts F 0 (i + 2) (d + 1)).bind (k_O ts)) := by unfold e_G; rw [if_pos hday]
 rw [hR]
 clear hR
 have hBi : biB x = true := by rw [hday]; rfl
 have hOp : q_s x = 20 := by rw [hday]; rfl
 have HAr := a_0 (show c_B 20 0 = 1 from by decide)
 have hff := b_6 hv F 0 (i + 2) (d + 1) hi (fun e => absurd e o_)
 have HS := a_0 hS
 have HO := a_0 hO
 clear hS hO hday
 have HOr := a_0 (show ∀ (X : World), PSt XT X P A ts c (i + 2) (d + 1) 0 → Calls prog 267 #[.pointer (some ⟨P, 0, none⟩)] X (fun e2 w2 => ∃ (B2 : Option Addr) (n2 : Nat) (fs : List Nd) (k d2 : Nat) (x2 : Int), e2 = .returned (.slice B2 fs.length n2) ∧ w2.ownsRow X.heap.size 116 6 (.slice B2 fs.length n2) fs.length (a_a fs) ∧ PSt XT w2 P A ts c k d2 x2 ∧ X.grownBy w2 (some P) ∧ i + 2 ≤ k ∧ k < ts.length ∧ fs.length ≤ k - (i + 2) ∧
   ((x2 = 0 ∧ d2 = d + 1 ∧ i + 2 < k ∧ prs ts F 0 (i + 2) (d + 1) = .ok fs k) ∨ (x2 ≠ 0 ∧ prs ts F 0 (i + 2) (d + 1) = .err x2 k ∧ d + 1 ≤ d2 ∧ d2 ≤ k))) from fun X hx =>
  (HO.out X (i + 2) (d + 1) hx hi o_ (fun e => absurd e o_) o_).mono fun e2 w2 h => a_C hff h)
 clear hff HO
 generalize prs ts F 0 (i + 2) (d + 1) = r0 at *
 generalize hRR : (if a_9 (tk ts (i + 2)) [41] = true then PR.err 3 (i + 2) else r0.bind (k_O ts)) = R at *
 have HR := a_0 hRR
 clear hRR
 refine u_b ?_; intro HYB
 have HPY := a_0 (show ∀ w1 : World, Below (W.alloc (.cells #[.int .i64 21, .int .i64 0, .int .i64 0, str [], str x, .int .i64 0] 116)).heap.size (W.alloc (.cells #[.int .i64 21, .int .i64 0, .int .i64 0, str [], str x, .int .i64 0] 116)) w1 →
   PSt XT (((((((w1.setCell ⟨W.heap.size, 0, none⟩ (.int .i64 20)).setCell ⟨W.heap.size, 1, none⟩ (.int .i64 0)).setCell ⟨W.heap.size, 2, none⟩ (.int .i64 0)).setCell ⟨W.heap.size, 3, none⟩ (str [])).setCell ⟨W.heap.size, 4, none⟩ (str [])).setCell ⟨W.heap.size, 5, none⟩ (.int .i64 0)).setCell ⟨P, 2, none⟩ (.int .i64 ((d + 1 : Nat) : Int))) P A ts c (i + 2) (d + 1) 0 ∧ W.grownBy (((((((w1.setCell ⟨W.heap.size, 0, none⟩ (.int .i64 20)).setCell ⟨W.heap.size, 1, none⟩ (.int .i64 0)).setCell ⟨W.heap.size, 2, none⟩ (.int .i64 0)).setCell ⟨W.heap.size, 3, none⟩ (str [])).setCell ⟨W.heap.size, 4, none⟩ (str [])).setCell ⟨W.heap.size, 5, none⟩ (.int .i64 0)).setCell ⟨P, 2, none⟩ (.int .i64 ((d + 1 : Nat) : Int))) (some P) ∧ (((((((w1.setCell ⟨W.heap.size, 0, none⟩ (.int .i64 20)).setCell ⟨W.heap.size, 1, none⟩ (.int .i64 0)).setCell ⟨W.heap.size, 2, none⟩ (.int .i64 0)).setCell ⟨W.heap.size, 3, none⟩ (str [])).setCell ⟨W.heap.size, 4, none⟩ (str [])).setCell ⟨W.heap.size, 5, none⟩ (.int .i64 0)).setCell ⟨P, 2, none⟩ (.int .i64 ((d + 1 : Nat) : Int))).heap[W.heap.size]? = some (.cells (c_3 20).cells.toArray 116 (0, 0)) from fun w1 hb => by
  refine v_8 ?_; intro h1 h2 h3
  have h4 := k_7 w1 W.heap.size (.int .i64 20) (.int .i64 0) (.int .i64 0) (str []) (str []) (.int .i64 0)
  refine ⟨(h1.gr h4 (fun j hj => by injection hj with hj; omega)).setDepth (d + 1), a_d (h2.andThen h4 (fun j hj => .inl (by injection hj with hj; omega))) 2 _, ?_⟩
  rw [Below.heap_setCell _ _ _ _ m_]
  exact l_1 h3 _ _ _ _ _ _)
 refine _ag ?_; intro i0 hi0 hz0 hz1 hz2
 go_enter func338, ntmps338
 go_wp2_with (go_at_call 160; refine (e_a _).mono ?_; rintro e w1 ⟨⟨B, rfl, hown, hB1, hB2⟩, hb1⟩; have hrun := n_n hown x x_; obtain ⟨n0, n1, n2, n3, n4, n5⟩ := d_t (HYB.out w1 hb1); have hfn := m_d (HYB.out w1 hb1); have hs1 := (HS.out.below (Below.alloc (b_ _ W) (l_ _) _)).below hb1; obtain ⟨c0, c1, c2, c3⟩ := hs1.cells; have hfp := hs1.free; have hPW := HPY.out w1 hb1; have HPW := a_0 hPW; clear hPW hs1 hown)
 refine (k_w _ P A ts c (i + 2) (d + 1) 0 HPW.out.1 hi hlen 5 [41]).mono ?_
 obtain ⟨b0, hb0, HD0⟩ : ∃ b0 : Bool, ((0 : Int) == 0 && ((tk ts (i + 2)).kind == 5 && (tk ts (i + 2)).text == [41])) = b0 ∧ Hid ((b0 = false ∧ r0.bind (k_O ts) = R) ∨ (b0 = true ∧ R = .err 3 (i + 2))) := by
  have hr := HR.out
  by_cases hs : a_9 (tk ts (i + 2)) [41] = true
  ·rw [if_pos hs] at hr
   exact ⟨true, hs, a_0 (.inr ⟨rfl, hr.symm⟩)⟩
  ·rw [if_neg hs] at hr
   have hs2 : a_9 (tk ts (i + 2)) [41] = false := by simpa using hs
   exact ⟨false, hs2, a_0 (.inl ⟨rfl, hr⟩)⟩
 rw [hb0]
 clear hb0 HR
 rintro e w2 ⟨rfl, hb2⟩
 refine u_r ?_; intro HS2 HG2 hn2 hz2' HN2
 clear hn2 hb2 HPW c0 c1 c2 c3 hfp n0 n1 n2 n3 n4 n5 hfn hrun hb1 hB1 HPY HYB
 have HW := a_0 (fun (X : World) (hg : W.grownBy X (some P)) => (HS.out.wrd.fr hg).words (Nat.lt_of_lt_of_le hP hg.size))
 go_wp2
 go_loopw [8, 9, 10] (fun s n m wr => ∃ (B : Option Addr) (nn : Nat) (es : List Nd) (k j d' : Nat) (e : Int) (b : Bool), s = .slice B es.length nn ∧ n = .int .i64 (k : Int) ∧ m = .bool b ∧ Hid (wr.ownsRow (W.heap.size + 1) 116 6 (.slice B es.length nn) es.length (a_a es)) ∧ Hid (PSt XT wr P A ts c j d' e) ∧ Hid (W.grownBy wr (some P)) ∧ Hid (wr.heap[W.heap.size]? = some (.cells (c_3 20).cells.toArray 116 (0, 0))) ∧ W.heap.size + 1 ≤ wr.heap.size ∧ i + 2 ≤ j ∧ j < ts.length ∧ es.length ≤ j - i ∧ k ≤ 1 ∧ Hid ((b = true ∧ k = 0 ∧ es = [] ∧ e = 0 ∧ d' = d + 1 ∧ j = i + 2 ∧ r0.bind (k_O ts) = R) ∨ (b = true ∧ k = 1 ∧ e = 0 ∧ d' = d + 1 ∧ R = s_m ts es j) ∨ (b = false ∧ k ≤ 1 ∧ e = 0 ∧ d' = d + 1 ∧ R = .err 3 j) ∨ (b = false ∧ e ≠ 0 ∧ R = .err e j ∧ d + 1 ≤ d' ∧ d' ≤ j))) (fun _ _ m wr => 2 * (ts.length - s_Z P wr) + d_J m)
 case atStart =>
  refine ⟨none, 0, [], 0, i + 2, d + 1, 0, !b0, rfl, rfl, rfl, a_0 (a_o _ _ _ _), HS2, HG2, HN2, hz2', l_ _, hi, s_, o_, a_0 ?_⟩
  rcases HD0.out with ⟨rfl, h⟩ | ⟨rfl, h⟩
  ·exact .inl ⟨rfl, rfl, rfl, rfl, rfl, rfl, h⟩
  ·exact .inr (.inr (.inl ⟨rfl, o_, rfl, rfl, h⟩))
 case round =>
  clear HS2 HG2 HN2 hz2' HD0
  obtain ⟨B, nn, es, k, j, d', e, b, rfl, rfl, rfl, HOw, HSr, HGr, HNr, hzr, hij, hjl, hel, hk1, HD⟩ := hrel
  refine t_M ?_; intro c0 c1 c2 c3 hPr hfr
  have hatr := j_A HSr.out
  cases b with
  | true =>
   rcases HD.out with ⟨_, rfl, rfl, rfl, rfl, rfl, hG2⟩ | ⟨_, rfl, rfl, rfl, hG2⟩ | ⟨h, _⟩ | ⟨h, _⟩
   rotate_left
   rotate_left
   ·cases h
   ·cases h
   ·have HG2x := a_0 hG2
    clear hG2 HD; simp only [List.length_nil] at *
    go_wp2_with fail
    refine (HOr.out wr HSr.out).mono ?_; rintro e2 w2 ⟨B2, n2, fs, k2, d2, x2, rfl, ho2, hS2, hg2, hjk, hkl, hfl, hD2⟩; refine u_O ?_; intro hoe HN2 HS2 HG2 HD2 hgw; clear hS2 hg2 hD2 c0 c1 c2 c3 hfr hPr
    rcases d_h ho2 with ⟨rfl, hf0, rfl⟩ | ⟨g2, rfl⟩
    ·obtain rfl : fs = [] := List.eq_nil_of_length_eq_zero hf0
     clear ho2 hf0; simp only [List.length_nil] at *
     go_wp2_with (at_builtin; refine wpList_append_own_none rfl _ _ _ rfl _ 116 i0 6 underlying25 hi0 _ _ _ rfl hoe rfl ?_)
     obtain ⟨B3, hB3⟩ : ∃ B3, B3 = B := ⟨B, rfl⟩; obtain ⟨n3, hn3⟩ : ∃ n3, n3 = nn := ⟨nn, rfl⟩; obtain ⟨w3, hw3⟩ : ∃ w3, w3 = w2 := ⟨w2, rfl⟩; rw [← hB3, ← hn3] at hoe; rw [← hw3] at hoe HS2 HG2 HN2 hgw; rw [← hB3, ← hn3, ← hw3]; clear hB3 hn3 hw3; have HO3 := a_0 (show w3.ownsRow (W.heap.size + 1) 116 6 (.slice B3 ([] : List Nd).length n3) ([] : List Nd).length (a_a []) from hoe); have HS3 := HS2; have HG3 := HG2; have HN3 := HN2; clear hoe HS2 HG2 HN2; have hk3 : ([] : List Nd).length ≤ k2 - i := Nat.zero_le _
     by_cases hx2 : x2 = 0
     ·rcases HD2.out with ⟨_, hdd, hjk2, hr⟩ | ⟨h, _⟩
      rotate_left
      ·exact absurd hx2 h
      subst hx2 hdd; have hG2 := HG2x.out; rw [hr] at hG2; simp only [PR.bind] at hG2; rw [q_S] at hG2
      by_cases hs4 : a_9 (tk ts k2) [44] = true
      ·rw [if_pos hs4] at hG2
       refine r_Z ?_; intro hk1 HE; clear hG2; refine (c_7 w3 P A ts c k2 (d + 1) HS3.out hkl hlen 5 [44] hs4).mono ?_; rintro e5 w5 ⟨rfl, hS5, hg5⟩; refine _ab ?_; intro HO5 HN5 HS5 HG5 hz5; clear hS5 hg5 hs4
       go_wp2
       refine _an ?_; intro hat; refine ⟨⟨B3, n3, [], 1, k2 + 1, d + 1, 0, true, v_, by first | rfl | go_num, rfl, HO5, HS5, HG5, HN5, o_, o_, hk1, o_, o_, a_0 (.inr (.inl ⟨rfl, rfl, rfl, rfl, HE.out.symm⟩))⟩, ?_⟩; rw [hat, hatr]; simp only [d_J]
       omega
      ·rw [if_neg hs4] at hG2
       have HE := a_0 hG2
       have hsb : ((0 : Int) == 0 && ((tk ts k2).kind == 5 && (tk ts k2).text == [44])) = false := by
        exact s_6
       clear hG2 hs4; refine (b_c w3 P A ts c k2 (d + 1) 0 HS3.out hkl hlen 5 [44] hsb).mono ?_; rintro e5 w5 ⟨rfl, hb5⟩; refine n_1 ?_; intro HO5 HN5 HS5 HG5 hz5; clear hsb
       go_wp2
       refine _an ?_; intro hat; refine ⟨⟨B3, n3, [], 1, k2, d + 1, 0, false, v_, by first | rfl | go_num, rfl, HO5, HS5, HG5, HN5, o_, o_, hkl, hk3, o_, a_0 (.inr (.inr (.inl ⟨rfl, o_, rfl, rfl, HE.out.symm⟩)))⟩, ?_⟩; rw [hat, hatr]; simp only [d_J]
       omega
     ·rcases HD2.out with ⟨h, _⟩ | ⟨_, hr, hd4, hd5⟩
      ·exact absurd h hx2
      have hG2 := HG2x.out; rw [hr] at hG2; simp only [PR.bind] at hG2; refine r_X ?_; intro HE hsb; clear hG2; refine (b_c w3 P A ts c k2 d2 x2 HS3.out hkl hlen 5 [44] hsb).mono ?_; rintro e5 w5 ⟨rfl, hb5⟩; refine n_1 ?_; intro HO5 HN5 HS5 HG5 hz5; clear hsb
      go_wp2
      refine _an ?_; intro hat; refine ⟨⟨B3, n3, [], 1, k2, d2, x2, false, v_, by first | rfl | go_num, rfl, HO5, HS5, HG5, HN5, o_, o_, hkl, hk3, o_, a_0 (.inr (.inr (.inr ⟨rfl, hx2, HE.out.symm, hd4, hd5⟩)))⟩, ?_⟩; rw [hat, hatr]; simp only [d_J]
      omega
    ·have hcf := (b_q ho2).2.2
     clear ho2
     go_wp2_with (at_builtin; refine wpList_append_own _ rfl _ _ 25 rfl (W.heap.size + 1) 116 i0 _ 6 64 underlying25 hi0 hz0 hz1 hz2 rfl d_ _ _ _ rfl hoe ⟨g2, 0, none⟩ fs.length n2 (a_a fs) rfl (b_4 _) hcf (e_d _) x_ o_ o_ ?_; intro v3 w3 o3 g3 _; obtain ⟨B3, n3, rfl⟩ := a_i o3; rw [Nat.zero_add] at o3; have HS3 := a_0 (HS2.out.gr g3 (fun j hj => by have := (hoe.lt j hj).1; omega)); have HG3 := a_0 (HG2.out.andThen g3 (fun j hj => .inl (by have := (hoe.lt j hj).1; omega))); have HN3 := a_0 ((g3.block W.heap.size (Array.getElem?_eq_some_iff.1 HN2.out).1 (by intro e; have := (hoe.lt W.heap.size e.symm).1; omega)).trans HN2.out); have hz3 := g3.size; have HO3 := a_0 (show w3.ownsRow (W.heap.size + 1) 116 6 (.slice B3 fs.length n3) fs.length (a_a fs) from o3); clear hcf g3 o3 hoe HS2 HG2 HN2)
     have hk3 : fs.length ≤ k2 - i := by omega
     by_cases hx2 : x2 = 0
     ·rcases HD2.out with ⟨_, hdd, hjk2, hr⟩ | ⟨h, _⟩
      rotate_left
      ·exact absurd hx2 h
      subst hx2 hdd; have hG2 := HG2x.out; rw [hr] at hG2; simp only [PR.bind] at hG2; rw [q_S] at hG2
      by_cases hs4 : a_9 (tk ts k2) [44] = true
      ·rw [if_pos hs4] at hG2
       refine r_Z ?_; intro hk1 HE; clear hG2; refine (c_7 w3 P A ts c k2 (d + 1) HS3.out hkl hlen 5 [44] hs4).mono ?_; rintro e5 w5 ⟨rfl, hS5, hg5⟩; refine _ab ?_; intro HO5 HN5 HS5 HG5 hz5; clear hS5 hg5 hs4
       go_wp2
       refine _an ?_; intro hat; refine ⟨⟨B3, n3, fs, 1, k2 + 1, d + 1, 0, true, v_, by first | rfl | go_num, rfl, HO5, HS5, HG5, HN5, o_, o_, hk1, o_, o_, a_0 (.inr (.inl ⟨rfl, rfl, rfl, rfl, HE.out.symm⟩))⟩, ?_⟩; rw [hat, hatr]; simp only [d_J]
       omega
      ·rw [if_neg hs4] at hG2
       have HE := a_0 hG2
       have hsb : ((0 : Int) == 0 && ((tk ts k2).kind == 5 && (tk ts k2).text == [44])) = false := by
        exact s_6
       clear hG2 hs4; refine (b_c w3 P A ts c k2 (d + 1) 0 HS3.out hkl hlen 5 [44] hsb).mono ?_; rintro e5 w5 ⟨rfl, hb5⟩; refine n_1 ?_; intro HO5 HN5 HS5 HG5 hz5; clear hsb
       go_wp2
       refine _an ?_; intro hat; refine ⟨⟨B3, n3, fs, 1, k2, d + 1, 0, false, v_, by first | rfl | go_num, rfl, HO5, HS5, HG5, HN5, o_, o_, hkl, hk3, o_, a_0 (.inr (.inr (.inl ⟨rfl, o_, rfl, rfl, HE.out.symm⟩)))⟩, ?_⟩; rw [hat, hatr]; simp only [d_J]
       omega
     ·rcases HD2.out with ⟨h, _⟩ | ⟨_, hr, hd4, hd5⟩
      ·exact absurd h hx2
      have hG2 := HG2x.out; rw [hr] at hG2; simp only [PR.bind] at hG2; refine r_X ?_; intro HE hsb; clear hG2; refine (b_c w3 P A ts c k2 d2 x2 HS3.out hkl hlen 5 [44] hsb).mono ?_; rintro e5 w5 ⟨rfl, hb5⟩; refine n_1 ?_; intro HO5 HN5 HS5 HG5 hz5; clear hsb
      go_wp2
      refine _an ?_; intro hat; refine ⟨⟨B3, n3, fs, 1, k2, d2, x2, false, v_, by first | rfl | go_num, rfl, HO5, HS5, HG5, HN5, o_, o_, hkl, hk3, o_, a_0 (.inr (.inr (.inr ⟨rfl, hx2, HE.out.symm, hd4, hd5⟩)))⟩, ?_⟩; rw [hat, hatr]; simp only [d_J]
      omega
   ·have HE := a_0 hG2
    clear hG2 HD; obtain ⟨g, off, rfl, hgP, t0, t1, t2, t3⟩ := HSr.out.tok.at_ hjl; have hg : g < wr.heap.size := Nat.lt_trans hgP hPr; have hnx := fun hk => b_0 hv hjl hk; have hnm := fun hk => j_t hv hjl hk; have hG2 := HE.out; clear HE; unfold s_m at hG2; obtain ⟨n0, n1, n2, n3, n4, n5⟩ := d_t HNr.out; have hfn := m_d HNr.out; have hNlt : W.heap.size < wr.heap.size := by omega
    generalize tk ts j = t at *; obtain ⟨tk0, tk1, tk2, tk3⟩ := t; simp only at t0 t1 t2 t3 hG2 hnx hnm
    by_cases hk : tk0 = 1
    ·subst hk
     have hj1 := hnx d_; have hnn := r_C (hnm rfl); have HRv := a_0 (fun (X : World) (hb : Below wr.heap.size wr X) => b_M ⟨tk1.toArray⟩ X (HW.out X (a_h HGr.out hb))); have hbs : bs ⟨tk1.toArray⟩ = tk1 := rfl; rw [hbs] at HRv; clear hnx hnm hbs
     by_cases hr : e_g tk1 = true
     ·rw [if_neg (fun h => by have h2 : e_g tk1 = false := h.2; rw [hr] at h2; cases h2)] at hG2
      have HE := a_0 hG2; rw [hr] at HRv; clear hG2 hr hnn
      go_wp2
      go_region
      go_wp2_with (go_at_call 89; refine (HRv.out _ zX).mono ?_; rintro e9 w9 ⟨rfl, rfl⟩)
      refine (d_T _ P _ ts c j (d + 1) (HSr.out.below zX) 3).mono ?_; rintro e8 w8 ⟨rfl, hS8, hg8⟩; have HS8 := a_0 hS8; have HG8 := a_0 (World.grownBy.trans (a_h HGr.out zX) hg8); clear hS8 hg8 c0 c1 c2 c3 hfr t0 t1 t2 t3 n0 n1 n2 n3 n4 n5 hfn HRv
      go_wp2
      go_ret
      rw [HE.out]; exact _ap
     ·have hr : e_g tk1 = false := by simpa using hr
      rw [if_pos ⟨rfl, hr⟩] at hG2; have HE := a_0 hG2; rw [hr] at HRv; have HDW := a_0 (o_x (tk1 := tk1) (o := .cells #[.int .i64 1, str tk1, .int .i64 tk2, .int .i64 tk3] 99) hP HSr.out HGr.out HOw.out HNr.out); clear hG2 hr
      go_wp2
      go_region
      go_wp2_with (go_at_call 89; refine (HRv.out _ zX).mono ?_; rintro e9 w9 ⟨rfl, rfl⟩)
      by_cases hs5 : a_9 (tk ts (j + 1)) [41] = true
      ·have hj2 := a_T hv hj1 hs5
       have hG3 := HE.out; rw [if_pos hs5] at hG3; have HE2 := a_0 hG3; have hst : ((0 : Int) == 0 && ((tk ts (j + 1)).kind == 5 && (tk ts (j + 1)).text == [41])) = true := hs5; clear hG3 hs5 HE; refine (k_w _ P _ ts c (j + 1) d 0 HDW.out.1 hj1 hlen 5 [41]).mono ?_; rw [hst]; rintro e5 w5 ⟨rfl, hb5⟩; have HS5 := a_0 (PSt.below HDW.out.1 hb5); have HG5 := a_0 (a_h HDW.out.2.1 hb5); have HO5 := a_0 (a_8 HDW.out.2.2.1 hb5); have hq5 := HDW.out.2.2.2; have hz6 := hb5.size; have hz7 := (Array.getElem?_eq_some_iff.1 hq5).1; have HN5 := a_0 ((hb5.block W.heap.size hz7).trans hq5); clear hq5 hst c0 c1 c2 c3 hfr t0 t1 t2 t3 n0 n1 n2 n3 n4 n5 hfn HRv; obtain ⟨n0, n1, n2, n3, n4, n5⟩ := d_t HN5.out; have hz5 : W.heap.size < w5.heap.size := (Array.getElem?_eq_some_iff.1 HN5.out).1; clear hz6 hz7 hb5
       go_wp2_with (first
        | (go_at_call 92; refine (b_N 20 0 0 0 ⟨#[]⟩ ⟨tk1.toArray⟩ _).mono ?_; rw [HAr.out]; rintro e6 w6 ⟨rfl, hb6⟩; obtain ⟨n0, n1, n2, n3, n4, n5⟩ := d_t ((hb6.block W.heap.size o_).trans HN5.out); have hS6 := HS5.out.below hb6; obtain ⟨c0, c1, c2, c3⟩ := hS6.cells; have hfr := hS6.free; have hP6 := hS6.lt; have HS6 := a_0 (hS6.setAt (j + 1 + 1)); have HG6 := a_0 (a_d (a_h HG5.out hb6) 1 (.int .i64 ((j + 1 + 1 : Nat) : Int))); have HO6 := a_0 (a_v (a_8 HO5.out hb6) (a_d (g_ w6 (some P)) 1 (.int .i64 ((j + 1 + 1 : Nat) : Int))) o_); have hz6 := hb6.size; clear hS6)
        | (at_builtin; refine wpList_append_own _ rfl _ _ 25 rfl (W.heap.size + 1) 116 i0 _ 6 64 underlying25 hi0 hz0 hz1 hz2 rfl d_ _ _ _ rfl (HO6.out.alloc _) ⟨w6.heap.size, 0, none⟩ 1 1 [.int .i64 20, .int .i64 0, .int .i64 0, str [], str tk1, .int .i64 0] rfl rfl (by exact b_h (p_S s_)) c_ x_ o_ m_ ?_; intro v7 w7 o7 g7 _; obtain ⟨B7, n7, rfl⟩ := a_i o7; have HS7 := a_0 ((HS6.out.below (Below.alloc (b_ _ _) (l_ _) _)).gr g7 (fun j hj => by have := (HO6.out.lt j hj).1; omega)); have HG7 := a_0 ((a_h HG6.out (Below.alloc (b_ _ _) (l_ _) _)).andThen g7 (fun j hj => .inl (by have := (HO6.out.lt j hj).1; omega))); have HO7 := a_0 (d_5 (nd := (⟨20, vl0, tk1, 0⟩ : Nd)) o7); clear o7 g7))
       go_ret
       rw [HE2.out]; exact ⟨HG7.out, ⟨B7, n7, v_, a_Z HO7.out o_⟩, HS7.out⟩
      ·have hG3 := HE.out
       rw [if_neg hs5] at hG3; have HE2 := a_0 hG3
       have hsb : ((0 : Int) == 0 && ((tk ts (j + 1)).kind == 5 && (tk ts (j + 1)).text == [41])) = false := by
        have : a_9 (tk ts (j + 1)) [41] = false := by simpa using hs5
        exact this
       clear hG3 hs5 HE; refine (k_w _ P _ ts c (j + 1) d 0 HDW.out.1 hj1 hlen 5 [41]).mono ?_; rw [hsb]; rintro e5 w5 ⟨rfl, hb5⟩; have HS5 := a_0 (PSt.below HDW.out.1 hb5); have HG5 := a_0 (a_h HDW.out.2.1 hb5); clear hsb c0 c1 c2 c3 hfr t0 t1 t2 t3 n0 n1 n2 n3 n4 n5 hfn HRv hb5
       go_wp2_with fail
       refine (d_T w5 P _ ts c (j + 1) d HS5.out 3).mono ?_; rintro e8 w8 ⟨rfl, hS8, hg8⟩; have HS8 := a_0 hS8; have HG8 := a_0 (HG5.out.trans hg8); clear hS8 hg8
       go_wp2
       go_ret
       rw [HE2.out]; exact ⟨HG8.out, [], d, ⟨none, 0, rfl, a_o _ _ _ _⟩, o_, s_, ⟨o_, o_⟩, HS8.out⟩
    ·rw [if_neg (fun h => hk h.1)] at hG2
     have HE := a_0 hG2; have hkb : (tk0 == 1) = false := beq_eq_false_iff_ne.2 hk; clear hG2 hk hnx hnm
     go_wp2
     go_region
     go_wp2_with fail
     refine (d_T _ P _ ts c j (d + 1) (HSr.out.below zX) 3).mono ?_; rintro e8 w8 ⟨rfl, hS8, hg8⟩; have HS8 := a_0 hS8; have HG8 := a_0 (World.grownBy.trans (a_h HGr.out zX) hg8); clear hS8 hg8 c0 c1 c2 c3 hfr t0 t1 t2 t3 n0 n1 n2 n3 n4 n5 hfn
     go_wp2
     go_ret
     rw [HE.out]; exact _ap
  | false =>
   obtain ⟨d3, rfl⟩ : ∃ d3, d' = d3 + 1 := ⟨d' - 1, by
    rcases HD.out with ⟨h, _⟩ | ⟨h, _⟩ | ⟨_, _, _, h, _⟩ | ⟨_, _, _, h, _⟩
    ·cases h
    ·cases h
    ·omega
    ·omega⟩
   have hdd4 : d ≤ d3 ∧ d3 ≤ j := by
    rcases HD.out with ⟨h, _⟩ | ⟨h, _⟩ | ⟨_, _, _, h, _⟩ | ⟨_, _, _, h1, h2⟩
    ·cases h
    ·cases h
    ·omega
    ·omega
   refine u_M ?_; intro hd3 HS4 HG4; have HN4 := a_0 (show (wr.setCell ⟨P, 2, none⟩ (.int .i64 (d3 : Int))).heap[W.heap.size]? = some (.cells (c_3 20).cells.toArray 116 (0, 0)) from (Below.heap_setCell _ _ _ _ m_).trans HNr.out); refine u_B ?_; intro hX4; obtain ⟨X4, hX4⟩ := hX4; rw [← hX4] at HS4 HG4 HN4; have HX4 := a_0 hX4.symm; clear hX4; refine u_3 ?_; intro hz4
   by_cases he : e = 0
   rotate_left
   ·rcases HD.out with ⟨h, _⟩ | ⟨h, _⟩ | ⟨_, _, h, _⟩ | ⟨_, _, hE, _⟩
    ·cases h
    ·cases h
    ·exact absurd h he
    refine t_y ?_; intro HE hsb; clear hE
    go_wp2_with fail
    rw [HX4.out]; refine (k_w X4 P A ts c j d3 e HS4.out hjl hlen 5 [41]).mono ?_; rw [hsb]; rintro e5 w5 ⟨rfl, hb5⟩; refine p_6 ?_; intro HS5 HG5; clear hsb c0 c1 c2 c3 hfr
    go_wp2_with fail
    refine (f_F w5 P A ts c j d3 e HS5.out he 3).mono ?_; rintro e6 w6 ⟨rfl, hb6⟩; have HS6 := a_0 (HS5.out.below hb6); have HG6 := a_0 (a_h HG5.out hb6)
    go_wp2
    exact v_c
   subst he
   have HE := a_0 (show R = .err 3 j from by
    rcases HD.out with ⟨h, _⟩ | ⟨h, _⟩ | ⟨_, _, _, _, h⟩ | ⟨_, h, _⟩
    ·cases h
    ·cases h
    ·exact h
    ·exact absurd rfl h)
   by_cases hs : a_9 (tk ts j) [41] = true
   rotate_left
   ·have hsb : ((0 : Int) == 0 && ((tk ts j).kind == 5 && (tk ts j).text == [41])) = false := by
     exact u_W
    clear hs HD
    go_wp2_with fail
    rw [HX4.out]; refine (k_w X4 P A ts c j d3 0 HS4.out hjl hlen 5 [41]).mono ?_; rw [hsb]; rintro e5 w5 ⟨rfl, hb5⟩; refine p_6 ?_; intro HS5 HG5; clear hsb c0 c1 c2 c3 hfr
    go_wp2_with fail
    refine (d_T w5 P A ts c j d3 HS5.out 3).mono ?_; rintro e8 w8 ⟨rfl, hS8, hg8⟩; have HS8 := a_0 hS8; have HG8 := a_0 ((HG5.out).trans hg8); clear hS8 hg8
    go_wp2
    exact s_b
   refine u_K ?_; intro hst; clear hs HD; have hk01 : k = 0 ∨ k = 1 := by omega
   clear hk1
   rcases hk01 with rfl | rfl
   all_goals
    go_wp2_with fail
    rw [HX4.out]; refine (k_w X4 P A ts c j d3 0 HS4.out hjl hlen 5 [41]).mono ?_; rw [hst]; rintro e5 w5 ⟨rfl, hb5⟩; refine p_6 ?_; intro HS5 HG5; refine u_p ?_; intro hn5 HN5 hz5; clear hst c0 c1 c2 c3 hfr hn5 HX4 HS4 HG4 HN4 HSr HGr HOw HNr hatr; obtain ⟨n0, n1, n2, n3, n4, n5⟩ := d_t HN5.out
    go_wp2_with (go_at_call 92; refine (b_N 20 0 0 0 ⟨#[]⟩ ⟨#[]⟩ _).mono ?_; rw [HAr.out]; rintro e6 w6 ⟨rfl, hb6⟩; obtain ⟨n0, n1, n2, n3, n4, n5⟩ := d_t ((hb6.block W.heap.size o_).trans HN5.out); have HS6 := a_0 (HS5.out.below hb6); have HG6 := a_0 (a_h HG5.out hb6))
    refine (d_T w6 P A ts c j d3 HS6.out 3).mono ?_; rintro e8 w8 ⟨rfl, hS8, hg8⟩; have HS8 := a_0 hS8; have HG8 := a_0 ((HG6.out).trans hg8); clear hS8 hg8
    go_wp2
    exact s_b
set_option maxRecDepth 512
theorem s_X (F P : Nat) (A : Option Addr) (ts : List Tok) (c : Nat) (hv : a_O ts = true) (hlen : ts.length ≤ 1000000) (hO : LvC 267 F 0 P A ts c) : s_B F P A ts c := by
 intro W x i d hS hi hd hx hF
 by_cases hday : x = m_0
 ·exact m_I F P A ts c hv hlen hO W x i d hS hi hd hx hF hday
 ·rcases hb : f_c x with _ | ⟨o, a⟩
  ·exact q_g F P A ts c hv hlen hO W x hb i d hS hi hd hx hF hday
  ·exact p_w F P A ts c hv hlen hO W x o a hb i d hS hi hd hx hF hday
end
section
open Go.RowKit
structure AllC (F P : Nat) (A : Option Addr) (ts : List Tok) (c : Nat) : Prop where
 or : LvC 267 F 0 P A ts c
 no : LvC 289 F 2 P A ts c
 cmp : LvC 306 F 3 P A ts c
 un : LvC 321 F 7 P A ts c
 pr : LvC 332 F 8 P A ts c
 n0 : ChC 289 F 0 2 P A ts c
 n1 : ChC 289 F 1 1 P A ts c
 n2 : ChC 289 F 2 0 P A ts c
 u4 : ChC 321 F 4 3 P A ts c
 u5 : ChC 321 F 5 2 P A ts c
 u6 : ChC 321 F 6 1 P A ts c
 u7 : ChC 321 F 7 0 P A ts c
theorem t_p (P : Nat) (A : Option Addr) (ts : List Tok) (c : Nat) (hv : a_O ts = true) (hlen : ts.length ≤ 1000000) : ∀ F, AllC F P A ts c
 | 0 => by
  constructor
  all_goals first
   | (intro W i d hS hi hd h8 hF; exfalso; omega)
   | (intro W i d Lv hS hi hd hL hF; exfalso; omega)
 | F + 1 => by
  have ih := t_p P A ts c hv hlen F
  have hno := v_d F P A ts c hv hlen ih.no ih.cmp
  have hcmp := n_I F P A ts c hv hlen ih.u4
  have hun := r_e F P A ts c hv hlen ih.un ih.pr
  have hpr := o_p F P A ts c hv hlen ih.or (s_X F P A ts c hv hlen ih.or)
  have hn2 := i_t (F + 1) 2 P A ts c hno d_
  have hn1 := d_R 289 F 1 0 P A ts c hv hlen d_ ih.n2
  have hn0 := d_R 289 F 0 1 P A ts c hv hlen d_ ih.n1
  have hu7 := g_V (F + 1) 7 P A ts c hun d_
  have hu6 := d_R 321 F 6 0 P A ts c hv hlen d_ ih.u7
  have hu5 := d_R 321 F 5 1 P A ts c hv hlen d_ ih.u6
  have hu4 := d_R 321 F 4 2 P A ts c hv hlen d_ ih.u5
  exact ⟨w_U (F + 1) P A ts c hn0, hno, hcmp, hun, hpr, hn0, hn1, hn2, hu4, hu5, hu6, hu7⟩
def t_4 (w w' : World) (r : List Nd × Int × Int) (e : Ending) : Prop := ∃ (B : Option Addr) (n : Nat), e = .returned (.tuple #[.slice B r.1.length n, .int .i64 r.2.1, .int .i64 r.2.2]) ∧ w'.ownsRow w.heap.size 116 6 (.slice B r.1.length n) r.1.length (a_a r.1)
theorem h_y {B P : Nat} {w X X' : World} (h : X.grownBy X' (some P)) (hw : Below B w X) (hB : B ≤ P) (hX : B ≤ X.heap.size) : Below B w X' :=
 ⟨h.os.trans hw.os, h.tape.trans hw.tape, h.output.trans hw.output, Nat.le_trans hw.size h.size, fun k hk => (h.block k o_ i_).trans (hw.block k hk)⟩
theorem j_B {w : World} {A : Option Addr} {ts : List Tok} (h : d_a w A ts) (h0 : 0 < ts.length) : n_2 w w.heap.size A ts := by
 rcases h with rfl | ⟨g, off, hA, hg, hc⟩
 ·simp at h0
 ·exact ⟨g, off, hA, hg, hc⟩
set_option maxRecDepth 100000
theorem g_U (A : Option Addr) (ts : List Tok) (c : Nat) (a : Int) (w : World) (hG : Glob w) (hA : d_a w A ts) (hl : ts.length ≤ 1000000) (hx : ∀ j (h : j < ts.length), ts[j].text.length ≤ maxLen) :
  Calls prog 233 #[.slice A ts.length c, .int .i64 a] w fun e w' => t_4 w w' (paS ts a) e ∧ Below w.heap.size w w' := by
 have HV := a_0 (d_z A ts c w hG hA hl hx)
 have HG := a_0 hG
 have HA := a_0 hA
 clear hG hA hx
 by_cases hv : a_O ts = false
 ·have hE : h_N ts = 8 := by unfold h_N; rw [hv]; rfl
  have HP := a_0 (show paS ts a = ([], 0, 8) from by unfold paS; rw [if_pos hv])
  rw [hE] at HV
  clear hv hE
  go_enter func233, ntmps233
  go_wp2_with fail
  refine HV.out.mono ?_
  rintro e w1 ⟨rfl, hb1⟩
  go_wp2
  exact t_u
 refine t_Q ?_; intro hvt hE
 rw [hE] at HV
 clear hE
 by_cases hr : a < 0 ∨ (ts.length : Int) ≤ a
 ·have HP := a_0 (show paS ts a = ([], 0, 1) from by unfold paS; rw [if_neg hv, if_pos hr])
  clear hv hvt
  rcases hr with h | h
  all_goals
   go_enter func233, ntmps233
   go_wp2_with fail
   refine HV.out.mono ?_; rintro e w1 ⟨rfl, hb1⟩
   go_wp2
   exact t_u
 obtain ⟨i, rfl⟩ : ∃ i : Nat, a = (i : Int) := ⟨a.toNat, o_⟩
 have hi : i < ts.length := by omega
 have HP := a_0 (show paS ts (i : Int) = (match prs ts ((ts.length - i) * 10 + 9) 0 i 0 with
  | .ok es j => if a_x es = 0 then (es, (j : Int), 0) else ([], (j : Int), a_x es)
  | .err x j => ([], (j : Int), x)
  | .out => ([], 0, 0)) from by unfold paS; rw [if_neg hv, if_neg hr]; rfl)
 have hf := b_6 hvt ((ts.length - i) * 10 + 9) 0 i 0 hi (fun e => absurd e o_)
 clear hv hr
 have HOr := a_0 (fun (P : Nat) => (t_p P A ts c hvt hl ((ts.length - i) * 10 + 9)).or)
 have HSt := a_0 (show ∀ w1 : World, Below w.heap.size w w1 → PSt XT (w1.alloc (.cells #[.slice A ts.length c, .int .i64 i, .int .i64 0, .int .i64 0] XT)) w1.heap.size A ts c i 0 0 from fun w1 hb =>
  ⟨heap_alloc_new w1 _, (j_B (HA.out.below hb) o_).fr (a_1 (Below.alloc (b_ _ w1) (l_ _) _)), (o_Y.of_words (HG.out.below hb).words).fr (a_1 (Below.alloc (b_ _ w1) (l_ _) _))⟩)
 clear hvt
 go_enter func233, ntmps233
 go_wp2_with fail
 refine HV.out.mono ?_
 rintro e w1 ⟨rfl, hb1⟩
 go_wp2_with fail
 refine (HOr.out w1.heap.size _ i 0 (HSt.out w1 hb1) hi (Nat.zero_le _) (fun e => absurd e o_) o_).mono ?_
 intro e2 w2 h2
 obtain ⟨B, n, es, j, d', x, rfl, ho2, hS2, hg2, hij, hjl, hel, hD2⟩ := a_C hf h2
 refine v_F ?_; intro hbw hz1 hz2
 simp at hz2
 refine w_a ?_; intro HO2 HO2b HNm HS2 HD2
 clear h2 ho2 hg2 hD2 hf HOr HSt HV
 obtain ⟨c0, c1, c2, c3⟩ := hS2.cells
 have hP2 := hS2.lt
 have hfr := hS2.free
 clear hS2
 by_cases hx : x = 0
 ·rcases HD2.out with ⟨_, hdd, hij2, hr⟩ | ⟨h, _⟩
  rotate_left
  ·exact absurd hx h
  subst hx
  have HR := a_0 hr
  have HVe := a_0 (c_R B es n w2 (HS2.out.wrd.words hP2) (c_X HO2.out) o_ (HNm.out hr))
  clear hr hdd
  go_wp2_with fail
  refine HVe.out.mono ?_
  rintro e3 w3 ⟨rfl, hb3⟩
  have HS3 := HS2.out.below hb3
  clear c0 c1 c2 c3 hfr
  refine v_m ?_; intro c0 c1 c2 c3 hP3 hfr hz3 HO3
  clear HS3
  refine w_z ?_; intro HPv hbw3
  by_cases hve : a_x es = 0
  ·have HPx := a_0 (show paS ts (i : Int) = (es, (j : Int), 0) from by rw [HPv.out, if_pos hve])
   rw [hve] at HO3 ⊢; clear hve HVe HPv
   go_wp2
   go_big_quiet (fail)
   go_wp2
   exact v_G
  ·have HPx := a_0 (show paS ts (i : Int) = ([], (j : Int), a_x es) from by rw [HPv.out, if_neg hve])
   have hvb : (a_x es == 0) = false := beq_eq_false_iff_ne.2 hve; have hvn : (a_x es != 0) = true := by simpa using hve
   clear HVe HPv HO3 hve; generalize a_x es = v at *
   go_wp2
   go_big_quiet (fail)
   go_wp2
   exact t_E
 ·rcases HD2.out with ⟨h, _⟩ | ⟨_, hr, hd4⟩
  ·exact absurd h hx
  have HPx := a_0 (show paS ts (i : Int) = ([], (j : Int), x) from by rw [HP.out, hr])
  refine s_g ?_; intro hxb hxn
  clear hr hx
  go_wp2
  go_big_quiet (fail)
  go_wp2
  exact t_E
end
section
open Go.RowKit Go.WideMaps Go.Maps
def bv (t : a_3) (a b c : Int) : DataW Unit := .agg [.lit (.string t), .lit (.int .i64 a), .lit (.int .i64 b), .lit (.int .i64 c)]
theorem n_C {P : Program} {k : TypeId} (hk : P.underlying k = some .string) {key : Value} {kl : Lit} (h : keyOf P k key = some kl) : ∃ s, key = .string s ∧ kl = .string (bs s) := by
 cases key <;> simp [keyOf, hk, mapKey] at h
 all_goals exact ⟨_, rfl, by first | exact h.2.symm | exact h.symm | (simp_all; done)⟩
theorem n_P (A : Option Addr) (c m : Nat) (l : List a_3) (w : World) (base : Nat) (hm : l.length = m) (hm2 : m ≤ 1000000) (hown : w.ownsRow base 9 1 (.slice A m c) m (l.map str)) (hp : (List.intercalate [44, 32] l).length ≤ 131000000) :
  Calls prog 81 #[.slice A m c, .string ⟨#[44, 32]⟩] w fun e w' => e = .returned (str (List.intercalate [44, 32] l)) ∧ Below w.heap.size w w' := by
 by_cases h0 : m = 0
 ·subst h0
  obtain rfl : l = [] := List.eq_nil_of_length_eq_zero hm
  refine (Tryz.strings_Join_none A c ⟨#[44, 32]⟩ w).mono fun e w' ⟨he, hw⟩ => ⟨he, hw ▸ b_ _ _⟩
 ·rcases hown.2 with ⟨hv, hn⟩ | ⟨g, cap, cur, hv, hg, hh, hnc, hcap, hsz, htk⟩
  ·omega
  ·have hv' := hv
   injection hv with h1 h2 h3; subst h1 h3
   have hcell : ∀ j, j < m → w.cell? ⟨g, j, none⟩ = (l.map str)[j]? := fun j hj => by
    have := World.ownsRow.cellAt hown j o_; exact this
   have hx : (l.map fun t => (⟨t.toArray⟩ : ByteArray)).length = m := by simpa using hm
   have hj : Lib.join ((l.map fun t => (⟨t.toArray⟩ : ByteArray)).map (·.data.toList)) [44, 32] = List.intercalate [44, 32] l := by
    unfold Lib.join; rw [List.map_map]
    congr 1
    conv => rhs; rw [← List.map_id l]
    rfl
   have key := Tryz.strings_Join g 0 c (l.map fun t => (⟨t.toArray⟩ : ByteArray)) ⟨#[44, 32]⟩ w (fun j x hx => ?_) (a_6 hh) o_ o_ (by
    show (Lib.join _ [44, 32]).length ≤ _
    rw [hj]; omega)
   ·rw [hx] at key
    exact v_R
   ·have hjm : j < m := by
     have := (List.getElem?_eq_some_iff.1 hx).1
     simp at this; omega
    rw [Nat.zero_add, hcell j hjm]; rw [List.getElem?_map] at hx ⊢
    cases ht : l[j]? with
    | none => rw [ht] at hx; simp at hx
    | some t => rw [ht] at hx; simp at hx; subst hx; rfl
theorem n_N {w w' : World} (h : w.grownBy w' none) : Below w.heap.size w w' := ⟨h.os, h.tape, h.output, h.size, fun k hk => h.block k hk s_⟩
end
section
open Go.RowKit
set_option maxRecDepth 100000
theorem g_M (A B : Option Addr) (es : List Nd) (ca cb : Nat) (w : World) (hA : c_L w A es) (hB : c_L w B es) (hl : es.length ≤ 1000000) :
  Calls prog 77 #[.slice A es.length ca, .slice B es.length cb] w fun e w' => e = .returned (.bool true) ∧ Below w.heap.size w w' := by
 have HA := a_0 hA; have HB := a_0 hB
 clear hA hB
 go_enter func77, ntmps77
 go_wp2
 go_loopw [5] (fun i wr => ∃ k : Nat, k ≤ es.length ∧ i = .int .i64 k ∧ Below w.heap.size w wr) (fun i _ => es.length - (intOf i).toNat)
 case atStart => exact ⟨0, o_, rfl, b_ _ _⟩
 case round =>
  obtain ⟨k, hk, rfl, hbel⟩ := hrel
  by_cases hlt : k < es.length
  ·rcases HA.out.below hbel with e | ⟨ga, oa, rfl, hga, hca⟩
   ·exact absurd hlt e_
   rcases HB.out.below hbel with e | ⟨gb, ob, rfl, hgb, hcb⟩
   ·exact absurd hlt e_
   obtain ⟨n0, n1, n2, n3, n4, n5⟩ := nd_of_cells hca k hlt; obtain ⟨m0, m1, m2, m3, m4, m5⟩ := nd_of_cells hcb k hlt; clear hca hcb; generalize es[k] = nd at *
   go_wp2
   go_big_quiet (fail)
   go_wp2
   exact ⟨⟨k + 1, o_, t_, zX⟩, w_⟩
  ·go_wp2
   go_ret
   exact ⟨rfl, hbel⟩
end
section
open Go.RowKit Go.WideMaps Go.Maps
set_option maxRecDepth 100000
theorem i_a (A : Option Addr) (c : Nat) (l : List a_3) (sep : a_3) (w : World) (hA : b_l w A l) (hc : l.length ≤ c) (hl : l.length ≤ 1000000) (hp : (List.intercalate sep l).length ≤ 131000000) :
  Calls prog 81 #[.slice A l.length c, str sep] w fun e w' => e = .returned (str (List.intercalate sep l)) ∧ Below w.heap.size w w' := by
 rcases hA with rfl | ⟨g, off, rfl, hg, hcs⟩
 ·refine (Tryz.strings_Join_none A c ⟨sep.toArray⟩ w).mono fun e w' ⟨he, hw⟩ => ⟨he.trans (by first | rfl | simp [str]), hw ▸ b_ _ _⟩
 ·have hx : (l.map fun t => (⟨t.toArray⟩ : ByteArray)).length = l.length := by simp
  have hj : Lib.join ((l.map fun t => (⟨t.toArray⟩ : ByteArray)).map (·.data.toList)) sep = List.intercalate sep l := by
   unfold Lib.join; rw [List.map_map]
   congr 1
   conv => rhs; rw [← List.map_id l]
   rfl
  have key := Tryz.strings_Join g off c (l.map fun t => (⟨t.toArray⟩ : ByteArray)) ⟨sep.toArray⟩ w (fun j x hx => ?_) hg o_ o_ (by
   show (Lib.join _ sep).length ≤ _
   rw [hj]; omega)
  ·rw [hx] at key
   exact v_R
  ·rw [List.getElem?_map] at hx
   cases ht : l[j]? with
   | none => rw [ht] at hx; simp at hx
   | some t =>
    obtain ⟨hj2, ht2⟩ := List.getElem?_eq_some_iff.1 ht; rw [ht] at hx; simp at hx; subst hx; rw [hcs j hj2, ht2]
theorem s_j (L : List (a_3 × Int)) (w : World) {ops : Array Oper} {rest : List Oper} {o : Oper} {a : Act} {Q : Exit → Act → World → Prop} (hg : o.guard = none) (it : Operand) (hop : o.op = Op.next it false) (b r n : Nat) (left : Lit → Bool) (cnt : Nat)
  (hit : a.eval it = .pointer (some ⟨r, 0, none⟩)) (h : w.ranges prog 9 (plainElem prog 3) b r n (f_s f_q L) left cnt)
  (hDone : (∀ kl, left kl = false) → wpList prog ops Q rest (a.put o.dst (.tuple #[.bool false])) w)
  (hMore : ∀ (x : ByteArray) (w' : World) (cnt' : Nat), w'.ranges prog 9 (plainElem prog 3) b r n (f_s f_q L) (fun z => left z && !z.sameKey (.string (bs x))) cnt' → cnt' < cnt →
   w.grownBy w' (some r) → w'.heap.size = w.heap.size → (Instr.entry (.pointer (some ⟨r, 0, none⟩))).run prog w' = .ok (.tuple #[.string x, .int .i64 (d_2 L (bs x))]) w' → wpList prog ops Q rest (a.put o.dst (.tuple #[.bool true, .string x, .int .i64 (d_2 L (bs x))])) w') :
  wpList prog ops Q (o :: rest) a w :=
 wpList_next_ranges w hg it hop 9 a_Q (plainElem prog 3) Value.string (Value.int .i64) (fun key kl hkey => by obtain ⟨x, rfl, _⟩ := n_C underlying9 hkey; exact ⟨x, rfl⟩) (fun v y hv => by obtain ⟨c, rfl, _⟩ := plainElem_int_inv underlying3 hv; exact ⟨c, rfl⟩)
  b r n (f_s f_q L) left cnt hit h (fun _ hl => hDone hl) (fun x c kl y w' cnt' hkey hlk hv hat hrg hlt hgr hsz hen => by
   obtain ⟨x', ex, rfl⟩ := n_C underlying9 hkey
   cases ex
   obtain ⟨c', ec, rfl, hwc⟩ := plainElem_int_inv underlying3 hv
   cases ec
   have h0 := hat (f_q 0); rw [show (f_s f_q L).atKey (.string (bs x)) (f_q 0) = f_q (d_2 L (bs x)) from l_s f_q (bs x) L] at h0; injection h0 with h0; injection h0 with _ h0; subst h0
   exact hMore x w' cnt' hrg hlt hgr hsz hen)
theorem m_S (L : List (a_3 × Int)) (wd : a_3) (f : Int) (h1 : d_2 L wd = f) (h2 : ∀ x, d_2 L x = f → x = wd) (hh : Maps.has (f_s f_q L) (.string wd) = true) (B n : Nat) (w : World) (hM : w.ownsMap prog 9 (plainElem prog 3) B n (f_s f_q L)) :
  Calls prog 205 #[.map (some B), .int .i64 f] w fun e w' => e = .returned (str wd) ∧ Below w.heap.size w w' := by
 have H1 := a_0 h1
 have H2 := a_0 h2
 have HH := a_0 hh
 clear h1 h2 hh
 go_enter func205, ntmps205
 go_wp2_with (at_range; refine wpList_range_own _ rfl _ 152 rfl 9 3 a_Q underlying152 (plainElem prog 3) B n (f_s f_q L) rfl hM ?_; intro w6 hrg hg6 hs6)
 go_frame
 have hb6 := n_N hg6
 have HB6 := a_0 hb6
 clear hg6 hs6 hb6
 go_loopw [5] (fun _ wr => ∃ (left : Lit → Bool) (cnt : Nat), wr.ranges prog 9 (plainElem prog 3) B w.heap.size n (f_s f_q L) left cnt ∧ Hid (left (.string wd) = true) ∧ Hid (Below w.heap.size w wr)) (fun _ wr => wr.rangeLeft B w.heap.size)
 case atStart => exact ⟨_, _, hrg, HH, HB6⟩
 case round =>
  clear hrg HB6
  obtain ⟨left, cnt, hrg, HL, HB⟩ := hrel
  have hzr := HB.out.size
  go_wp2_with (first | (at_next; refine s_j L _ rfl _ rfl B w.heap.size n left cnt rfl hrg ?_ ?_) | go_in)
  ·intro hl0
   have := HL.out; rw [hl0] at this
   cases this
  ·intro z w1 cnt1 hrg1 hlt hg1 hs1 hen
   have HB1 := a_0 (HB.out.grown hg1 o_ (fun k hk => by injection hk with hk; omega)); have hle := hrg1.left_eq; have hle0 := hrg.left_eq; have HRg := a_0 hrg1; have HM := a_0 (show w1.rangeLeft B w.heap.size < wr.rangeLeft B w.heap.size from by rw [hle, hle0]; exact hlt); have HZ := a_0 (H2.out (bs z)); clear hrg1 hrg hle hle0 hlt hg1 HB; generalize hq : d_2 L (bs z) = q at *
   by_cases hco : q = f
   ·subst hco
    have hz : Value.string z = str wd := by rw [← HZ.out rfl]; exact (congrArg Value.string (k_0 z)).symm
    rw [hz] at hen; clear HL HRg HM hq hz
    go_wp2
    go_ret
    exact ⟨rfl, HB1.out⟩
   ·have hb : (q == f) = false := beq_eq_false_iff_ne.2 hco
    have HL1 := a_0 (show (left (.string wd) && !(Lit.string wd).sameKey (.string (bs z))) = true from by
     have hk : (wd == bs z) = false := beq_eq_false_iff_ne.2 (fun e => hco (by rw [← hq, ← e]; exact H1.out))
     rw [HL.out, d_A, hk]; rfl)
    clear hco HL hq
    go_wp2
    go_roundw
    case rel => exact ⟨_, _, HRg.out, HL1, HB1⟩
    case measure => exact HM.out
end
end Go.Proofs.YtmbeeefkpgfgmaaGreatDoor
