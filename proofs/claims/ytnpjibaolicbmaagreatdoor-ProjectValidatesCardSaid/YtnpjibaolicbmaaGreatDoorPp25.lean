/- Parts of the proof. -/
import Derived.Test.YtnpjibaolicbmaaGreatDoorPp24
import Derived.Test.YtnpjibaolicbmaaGreatDoorPp22
import Derived.Deep.CutRange
set_option linter.unusedVariables false
set_option linter.unusedSimpArgs false
set_option maxHeartbeats 8000000
namespace Go.Proofs.YtnpjibaolicbmaaGreatDoor
open Go.Proofs.Tryz
open Go.RowKit
structure PjV (w : World) : Prop where
 words : a_v w 1 a_w
 used : c_7 w
 bi : a_v w 0 b_I
theorem PjV.below {w w' : World} (h : PjV w) (hb : Below w.heap.size w w') : PjV w' := ⟨h.words.below hb, h.used.below hb, h.bi.below hb⟩
theorem h_E {w a b : World} {r : Option Nat} (h : w.grownBy a r) (hb : Below a.heap.size a b) : w.grownBy b r :=
 h.trans ⟨hb.os, hb.tape, hb.output, hb.size, fun i hi _ => hb.block i hi⟩
theorem l_x (x : a_3) (w : World) : Calls prog 36 #[str x] w fun e w' => e = .returned (.bool true) ∧ w = w' := by
 go_enter func36, ntmps36
 go_wp2
 exact m_Y
theorem e_u (x : a_3) (w : World) (hW : a_v w 0 b_I) : Calls prog 49 #[str x] w fun e w' => e = .returned (.bool (biB x)) ∧ w = w' := by
 obtain ⟨hg, b, off, cp, hb, hv, hcells⟩ := hW
 have HC := a_2 (b_k (some ⟨b, off, none⟩) b_I cp x w (.inr ⟨b, off, rfl, hb, fun i hi => by rw [hcells i hi, List.getD_eq_getElem?_getD, List.getElem?_eq_getElem hi]; rfl⟩) d_)
 rw [← show biB x = decide (x ∈ b_I) from by
  show b_I.contains x = _
  cases hc : b_I.contains x
  ·symm; rw [decide_eq_false_iff_not]; intro hm; rw [← List.contains_iff_mem, hc] at hm; cases hm
  ·symm; rw [decide_eq_true_eq]; exact List.contains_iff_mem.1 hc] at HC
 generalize biB x = q at *
 have hl5 : b_I.length = 5 := rfl
 rw [hl5] at hv HC
 clear hcells hl5
 go_enter func49, ntmps49
 go_wp2_with (go_at_call 85; refine (HC.out).mono ?_; rintro e w' ⟨rfl, rfl⟩)
 exact m_Y
theorem h_d (x : a_3) (w : World) (hW : a_v w 0 b_I) : Calls prog 48 #[str x] w fun e w' => e = .returned (.bool (!biB x)) ∧ w = w' := by
 have HC := a_2 (e_u x w hW)
 generalize biB x = q at *
 clear hW
 go_enter func48, ntmps48
 cases q
 all_goals
  go_wp2_with (go_at_call 49; refine (HC.out).mono ?_; rintro e w' ⟨rfl, rfl⟩)
  exact m_Y
theorem c_q {before names : List a_3} {good : a_3 → Bool} {own : Nat → Int} {k : Nat} {s : a_3} (h : k < names.length) (hs : names[k] = s) :
  c_S before names good own k = a_c (if (qlB s && good s) = true then 0 else 4) (a_c (if decide (s ∈ before ++ names.take k) = true then 6 else 0) (own k)) := by
 subst hs
 unfold c_S a_b
 rw [List.getD_eq_getElem?_getD, List.getElem?_eq_getElem h, Option.getD_some]
 cases qlB names[k] && good names[k] <;> simp
theorem m_F (s : a_3) (i1 : Int) (S2 : Option Addr) (m2 c2 : Nat) (w : World) : Calls prog 39 #[.agg #[str s, .int .i64 i1, .slice S2 m2 c2]] w fun e w' => e = .returned (str s) ∧ Below w.heap.size w w' := by
 go_enter func39, ntmps39
 go_wp2
 exact k_t
set_option maxRecDepth 100000
theorem o_c (A : Option Addr) (xs : List Zon) (c b n : Nat) (before : List a_3) (w0 w : World) (hS : b_d w b n before) (hn : n ≤ 1000) (hb0 : Below w0.heap.size w0 w) (hbb : w0.heap.size ≤ b) (hV : PjV w0) (hA : a_l 3 g_a w0 A xs)
  (hl : xs.length ≤ 8796093022208) (hok : ∀ z ∈ xs, z.name.length ≤ maxLen ∧ z.sh.length ≤ 8796093022208) :
  Calls prog 38 #[.slice A xs.length c, .map (some b), .func (.func 39) #[] #[], .func (.func 36) #[] #[], .func (.func 40) #[] #[]] w fun e w' =>
   e = .returned (.int .i64 (a_A before (xs.map Zon.name) a_n (a_X xs f_T))) ∧ w.grownBy w' (some b) ∧ (a_A before (xs.map Zon.name) a_n (a_X xs f_T) = 0 → b_d w' b (n + xs.length) (before ++ (xs.map Zon.name))) := by
 by_cases h64 : 64 < xs.length
 ·have HE := a_2 (show a_A before (xs.map Zon.name) a_n (a_X xs f_T) = 2 from by unfold a_A; rw [if_pos (by simpa using h64)])
  go_enter func38, ntmps38
  go_wp2
  exact o_s
 have HE := a_2 (show a_A before (xs.map Zon.name) a_n (a_X xs f_T) = a_o (c_S before (xs.map Zon.name) a_n (a_X xs f_T)) xs.length from by unfold a_A; rw [if_neg (by simpa using h64), List.length_map])
 refine o_t ?_; intro HA HV HOk HB0 hbw HS0
 have eg1 : ∀ args W, (callFunc 39 args).run prog W = .ok (.enter 39 args) W := fun args W => by kernel_rfl
 refine p_5 ?_; intro eg2
 have eg3 : ∀ args W, (callFunc 40 args).run prog W = .ok (.enter 40 args) W := fun args W => by kernel_rfl
 clear hA hV hok hb0 hS
 go_enter func38, ntmps38
 go_wp2
 go_loopw [20] (fun i wr => ∃ k : Nat, k ≤ xs.length ∧ i = .int .i64 k ∧ Hid (∀ j, j < k → c_S before (xs.map Zon.name) a_n (a_X xs f_T) j = 0) ∧ Hid (b_d wr b (n + k) (before ++ (xs.map Zon.name).take k)) ∧ Hid (w.grownBy wr (some b))) (fun i _ => xs.length - (intOf i).toNat)
 case atStart => exact ⟨0, o_, rfl, a_2 fun j hj => absurd hj (Nat.not_lt_zero _), by simpa using HS0, g_ _ _⟩
 case round =>
  obtain ⟨k, hk, rfl, HZ, HS, HGr⟩ := hrel
  refine o_C ?_; intro hw0 hbl
  by_cases hlt : k < xs.length
  ·rcases HA.out with e | ⟨g, off, rfl, hg, hc⟩
   ·exact absurd hlt e_
   refine o_y ?_; intro vs hC hcs hcw; have hk2 : k < (xs.map Zon.name).length := by simpa using hlt
   have HT := a_2 (c_q (before := before) (names := (xs.map Zon.name)) (good := a_n) (own := a_X xs f_T) hk2 (by rw [List.getElem_map])); rw [c_n hlt] at HT; refine o_n ?_; intro hok1; have HTk := a_2 (show (xs.map Zon.name).take (k + 1) = (xs.map Zon.name).take k ++ [(xs[k]).name] from by rw [List.take_succ_eq_append_getElem hk2, List.getElem_map]); have HF := a_2 (fun x (e : c_S before (xs.map Zon.name) a_n (a_X xs f_T) k = x) (hx : x ≠ 0) => (HE.out.trans (a_q HZ.out (by rw [e]; exact hx) hlt)).trans e); have HN := a_2 (fun (e : c_S before (xs.map Zon.name) a_n (a_X xs f_T) k = 0) => a_T HZ.out e)
   have HO := a_2 (fun (x : Zon) (hx : xs[k] = x) (W : World) (hb : Below w0.heap.size w0 W) => show g_a w0 x vs → (x.name.length ≤ maxLen ∧ x.sh.length ≤ 8796093022208) → Calls prog 40 #[.agg vs.toArray] W (fun e w' => e = .returned (.int .i64 (f_T x)) ∧ Below W.heap.size W w') from fun hC hk => by
    obtain ⟨a, h1, rfl⟩ := hC; have h9 := HV.out; have hV := h9
    exact f_r ⟨x.name.toArray⟩ x.off a.1 x.sh a.2 W (h1.below hb) hk.2)
   have HO2 := a_2 (fun W hb => HO.out _ rfl W hb hC hok1); have hsl : (xs[k]).name.length ≤ maxLen := hok1.1; clear HO hc hcs
   have hvs : ∃ (i1 : Int) (S2 : Option Addr) (m2 c2 : Nat), vs = [str (xs[k]).name, .int .i64 i1, .slice S2 m2 c2] := by
    obtain ⟨a, h1, rfl⟩ := hC; exact ⟨_, _, _, _, rfl⟩
   obtain ⟨i1, S2, m2, c2, rfl⟩ := hvs; clear hC; have e0 : wr.cell? ⟨g, off + k * 3, none⟩ = some (str (xs[k]).name) := by simpa using hcw 0 s_
   have e1 : wr.cell? ⟨g, off + k * 3 + 1, none⟩ = some (.int .i64 i1) := by simpa using hcw 1 s_
   refine q_0 ?_; intro e2; clear hcw hok1; generalize (xs[k]).name = s at *; generalize f_T xs[k] = v at *; refine p_z ?_; intro HQ HG; have HNm := a_2 (fun W => m_F s i1 S2 m2 c2 W); have HAL := a_2 (show Below wr.heap.size wr (wr.alloc (.cells #[str s, .int .i64 i1, .slice S2 m2 c2] 47)) from zX); have hbox : Below (wr.heap.size + 1) (wr.alloc (.cells #[str s, .int .i64 i1, .slice S2 m2 c2] 47)) (wr.alloc (.cells #[str s, .int .i64 i1, .slice S2 m2 c2] 47)) := b_ _ _; unfold a_L at HQ; rw [show a_n s = true from rfl] at HT; have HL := a_2 (show (before ++ (xs.map Zon.name).take k) ++ [s] = before ++ (xs.map Zon.name).take (k + 1) from by rw [HTk.out, List.append_assoc]); clear HTk; generalize before ++ (xs.map Zon.name).take k = L at *; generalize hdd : decide (s ∈ L) = dd at *; generalize qlB s = q at *; refine o_H ?_; intro hfin; have HOw := a_2 (show ∀ W, Below w0.heap.size w0 W → Calls prog 40 #[.agg #[str s, .int .i64 i1, .slice S2 m2 c2]] W (fun e w' => e = .returned (.int .i64 v) ∧ Below W.heap.size W w') from HO2.out); clear HO2 HOk
   cases q
   ·rw [if_neg s_] at HQ
    refine _ah ?_; intro HR; clear HT HF HN
    go_wp2_with (first
     | (go_at_fn 39; refine (HNm.out _).mono ?_; rintro e w1 ⟨rfl, hb1⟩; have hx1 := a_1 hbox s_ hb1; have hr1 := a_9 hb1 HAL.out)
     | (go_at_call 59; refine (HQ.out _ (a_9 hr1 hw0)).mono ?_; rintro e w2 ⟨rfl, hb2⟩; have hx2 := a_1 hx1 s_ hb2; have hr2 := a_9 hb2 hr1))
    exact k_1
   rw [if_pos rfl] at HQ
   cases dd
   rotate_left
   ·have HR := a_2 (HF.out 6 (by rw [HT.out]; simp [a_c]) d_)
    clear HT HF HN
    go_wp2_with (first
     | (go_at_fn 39; refine (HNm.out _).mono ?_; rintro e w1 ⟨rfl, hb1⟩; have hx1 := a_1 hbox s_ hb1; have hr1 := a_9 hb1 HAL.out)
     | (go_at_call 59; refine (HQ.out _ (a_9 hr1 hw0)).mono ?_; rintro e w2 ⟨rfl, hb2⟩; have hx2 := a_1 hx1 s_ hb2; have hr2 := a_9 hb2 hr1)
     | (go_at_fn 36; refine (HG.out _ (a_9 hr2 hw0)).mono ?_; rintro e w' ⟨rfl, rfl⟩)
     | (at_lookup; refine a_p _ rfl _ _ rfl b (n + k) L s rfl rfl (HS.out.kept hr2 hbl) hsl true hdd ?_))
    exact k_1
   by_cases hv : v = 0
   rotate_left
   ·have hvb : (v != 0) = true := by simpa using hv
    refine o_D ?_; intro HR HV0; clear HT HF HN hv
    go_wp2_with (first
     | (go_at_fn 39; refine (HNm.out _).mono ?_; rintro e w1 ⟨rfl, hb1⟩; have hx1 := a_1 hbox s_ hb1; have hr1 := a_9 hb1 HAL.out)
     | (go_at_call 59; refine (HQ.out _ (a_9 hr1 hw0)).mono ?_; rintro e w2 ⟨rfl, hb2⟩; have hx2 := a_1 hx1 s_ hb2; have hr2 := a_9 hb2 hr1)
     | (go_at_fn 36; refine (HG.out _ (a_9 hr2 hw0)).mono ?_; rintro e w' ⟨rfl, rfl⟩)
     | (at_lookup; refine a_p _ rfl _ _ rfl b (n + k) L s rfl rfl (HS.out.kept hr2 hbl) hsl false hdd ?_)
     | (at_mapUpdate; refine a_P _ rfl _ _ _ rfl b (n + k) L s rfl rfl rfl (HS.out.kept hr2 hbl) x_ hsl ?_; intro w4 hs4 hg4; have hh3 := a_y hx2 (Nat.lt_succ_self _); have hh4 := (hg4.block _ (a_6 hh3) m_).trans hh3; have HS4 := a_2 hs4; have HG4 := a_2 ((hfin _ hr2).trans hg4); have hw4 := (a_9 hr2 hw0).grown hg4 (a_9 hr2 hw0).size (fun j hj => by cases hj; exact hbb); have d0 : w4.cell? ⟨wr.heap.size, 0, none⟩ = some (str s) := a_0 hh4 0; have d1 : w4.cell? ⟨wr.heap.size, 1, none⟩ = some (.int .i64 i1) := a_0 hh4 1; have d2 : w4.cell? ⟨wr.heap.size, 2, none⟩ = some (.slice S2 m2 c2) := a_0 hh4 2; clear hs4 hg4 hh3 hh4)
     | (go_at_fn 40; refine (HOw.out _ hw4).mono ?_; rintro e w5 ⟨rfl, hb5⟩))
    exact o_l
   ·subst hv
    refine k_m ?_; intro HR; clear HT HF HN
    go_wp2_with (first
     | (go_at_fn 39; refine (HNm.out _).mono ?_; rintro e w1 ⟨rfl, hb1⟩; have hx1 := a_1 hbox s_ hb1; have hr1 := a_9 hb1 HAL.out)
     | (go_at_call 59; refine (HQ.out _ (a_9 hr1 hw0)).mono ?_; rintro e w2 ⟨rfl, hb2⟩; have hx2 := a_1 hx1 s_ hb2; have hr2 := a_9 hb2 hr1)
     | (go_at_fn 36; refine (HG.out _ (a_9 hr2 hw0)).mono ?_; rintro e w' ⟨rfl, rfl⟩)
     | (at_lookup; refine a_p _ rfl _ _ rfl b (n + k) L s rfl rfl (HS.out.kept hr2 hbl) hsl false hdd ?_)
     | (at_mapUpdate; refine a_P _ rfl _ _ _ rfl b (n + k) L s rfl rfl rfl (HS.out.kept hr2 hbl) x_ hsl ?_; intro w4 hs4 hg4; have hh3 := a_y hx2 (Nat.lt_succ_self _); have hh4 := (hg4.block _ (a_6 hh3) m_).trans hh3; have HS4 := a_2 hs4; have HG4 := a_2 ((hfin _ hr2).trans hg4); have hw4 := (a_9 hr2 hw0).grown hg4 (a_9 hr2 hw0).size (fun j hj => by cases hj; exact hbb); have d0 : w4.cell? ⟨wr.heap.size, 0, none⟩ = some (str s) := a_0 hh4 0; have d1 : w4.cell? ⟨wr.heap.size, 1, none⟩ = some (.int .i64 i1) := a_0 hh4 1; have d2 : w4.cell? ⟨wr.heap.size, 2, none⟩ = some (.slice S2 m2 c2) := a_0 hh4 2; clear hs4 hg4 hh3 hh4)
     | (go_at_fn 40; refine (HOw.out _ hw4).mono ?_; rintro e w5 ⟨rfl, hb5⟩))
    exact o_m
  ·obtain rfl : k = xs.length := by omega
   refine i_2 ?_; intro HR; have HS9 := HS.out; rw [List.take_of_length_le s_] at HS9; have HS8 := a_2 HS9
   go_wp2
   exact o_j
set_option maxRecDepth 512
theorem d_h (a b : Int) (w : World) : Calls prog 172 #[.agg #[.int .i64 a, .int .i64 b]] w fun e w' => e = .returned (.bool (e_O a b)) ∧ Below w.heap.size w w' := by
 have HE := a_2 (show e_O a b = (decide (0 ≤ a) && decide (a ≤ 1073741824) && decide (1 ≤ b) && decide (b ≤ 1073741824)) from rfl)
 generalize e_O a b = r at *
 go_enter func172, ntmps172
 go_wp2
 all_goals
  go_ret
  exact ⟨a_a (by rw [HE.out]; first | (simp_all; done) | (simp_all; omega)), zX⟩
abbrev c_4 (w : World) (b : Nat) (c : Chk) (p q r : Pl) : Prop := w.heap[b]? = some (.cells #[str c.name, str c.table, .int .i64 c.kind, slV p c.cols.length, str c.other, slV q c.ocols.length, .int .i64 c.low, .int .i64 c.high, slV r c.cond.length, .int .i64 c.ln, .int .i64 c.ld, .int .i64 c.mn, .int .i64 c.md, .int .i64 c.pol] 67)
set_option maxRecDepth 100000
theorem t_b (b : Nat) (c : Chk) (p q r : Pl) (w : World) (hB : c_4 w b c p q r) : b_8 w 163 #[a_f b] (a_b (c.cols.length ≠ 1) 2) := by
 refine ⟨fun args W => by kernel_rfl, fun W hW2 => ?_⟩
 refine e_T ?_; intro hh
 refine o_k ?_; intro c3
 clear hW2 hh hB
 generalize c.cols.length = l at *
 by_cases h1 : l < 1
 ·have HR := a_2 (show a_b (l ≠ 1) 2 = 2 from a_k o_)
  go_enter func163, ntmps163
  go_wp2_with (go_at_call 24; refine (a_8 _ _ _).mono ?_; rintro e w' ⟨rfl, rfl⟩)
  all_goals first | (exfalso; omega) | skip
  exact f_c
 have h1' := h1
 by_cases h2 : 1 < l
 ·have HR := a_2 (show a_b (l ≠ 1) 2 = 2 from a_k o_)
  go_enter func163, ntmps163
  go_wp2_with (go_at_call 24; refine (a_8 _ _ _).mono ?_; rintro e w' ⟨rfl, rfl⟩)
  all_goals first | (exfalso; omega) | skip
  exact f_c
 ·have HR := a_2 (show a_b (l ≠ 1) 2 = 0 from a_G o_)
  go_enter func163, ntmps163
  go_wp2_with (go_at_call 24; refine (a_8 _ _ _).mono ?_; rintro e w' ⟨rfl, rfl⟩)
  all_goals first | (exfalso; omega) | skip
  exact f_c
theorem s_P (b : Nat) (c : Chk) (p q r : Pl) (w : World) (hB : c_4 w b c p q r) (hW : a_v w 1 a_w) (hs : b_9 w p c.cols) (hl : c.cols.length = 1) : b_8 w 164 #[a_f b] (a_F (c.cols.getD 0 [])) := by
 refine ⟨fun args W => by kernel_rfl, fun W hW2 => ?_⟩
 refine e_T ?_; intro hh
 refine o_k ?_; intro c3
 refine s_x ?_; intro HN hs2
 rcases hs2 with e | ⟨g, off, hA, hg, hc⟩
 ·rw [e] at hl; exact absurd hl s_
 have d0 := hc 0 o_
 rw [Nat.add_zero] at d0
 rw [show c.cols.getD 0 [] = c.cols[0] from by rw [List.getD_eq_getElem?_getD, List.getElem?_eq_getElem o_]; rfl] at HN ⊢
 obtain ⟨pA, pC⟩ := p
 simp only at hA c3
 subst hA
 rw [hl] at c3
 change W.cell? ⟨b, 3, none⟩ = some (.slice (some ⟨g, off, none⟩) 1 pC) at c3
 clear hW hs hc hW2 hh hB
 generalize a_F c.cols[0] = v at *
 generalize c.cols[0] = x at *
 go_enter func164, ntmps164
 go_wp2_with (go_at_call 22; refine (HN.out _ (b_ _ _)).mono ?_; rintro e w1 ⟨rfl, hb1⟩)
 exact d_s
theorem t_p (b : Nat) (c : Chk) (p q r : Pl) (w : World) (hB : c_4 w b c p q r) : b_8 w 165 #[a_f b] (a_b (c.low < -1073741824 ∨ c.high < c.low ∨ 1073741824 < c.high) 1) := by
 refine ⟨fun args W => by kernel_rfl, fun W hW2 => ?_⟩
 refine e_T ?_; intro hh
 have c6 : W.cell? ⟨b, 6, none⟩ = some (.int .i64 c.low) := a_0 hh 6
 have c7 : W.cell? ⟨b, 7, none⟩ = some (.int .i64 c.high) := a_0 hh 7
 clear hW2 hh hB
 generalize c.low = x at *
 generalize c.high = y at *
 by_cases h1 : x < -1073741824
 ·have HR := a_2 (show a_b (x < -1073741824 ∨ y < x ∨ 1073741824 < y) 1 = 1 from a_k (.inl h1))
  go_enter func165, ntmps165
  go_wp2_with (go_at_call 24; refine (a_8 _ _ _).mono ?_; rintro e w' ⟨rfl, rfl⟩)
  all_goals first | (exfalso; omega) | skip
  exact f_c
 by_cases h2 : y < x
 ·have HR := a_2 (show a_b (x < -1073741824 ∨ y < x ∨ 1073741824 < y) 1 = 1 from a_k (.inr (.inl h2)))
  go_enter func165, ntmps165
  go_wp2_with (go_at_call 24; refine (a_8 _ _ _).mono ?_; rintro e w' ⟨rfl, rfl⟩)
  all_goals first | (exfalso; omega) | skip
  exact f_c
 by_cases h3 : 1073741824 < y
 ·have HR := a_2 (show a_b (x < -1073741824 ∨ y < x ∨ 1073741824 < y) 1 = 1 from a_k (.inr (.inr h3)))
  go_enter func165, ntmps165
  go_wp2_with (go_at_call 24; refine (a_8 _ _ _).mono ?_; rintro e w' ⟨rfl, rfl⟩)
  all_goals first | (exfalso; omega) | skip
  exact f_c
 ·have HR := a_2 (show a_b (x < -1073741824 ∨ y < x ∨ 1073741824 < y) 1 = 0 from a_G o_)
  go_enter func165, ntmps165
  go_wp2_with (go_at_call 24; refine (a_8 _ _ _).mono ?_; rintro e w' ⟨rfl, rfl⟩)
  all_goals first | (exfalso; omega) | skip
  exact f_c
theorem t_j (b : Nat) (c : Chk) (p q r : Pl) (w : World) (hB : c_4 w b c p q r) (hW : a_v w 1 a_w) (hs : b_9 w p c.cols) (hl : c.cols.length ≤ 8796093022208) : b_8 w 166 #[a_f b] (a_z c.cols 1) := by
 refine ⟨fun args W => by kernel_rfl, fun W hW2 => ?_⟩
 refine e_T ?_; intro hh
 refine o_k ?_; intro c3
 have HN := a_2 (c_r p.1 c.cols p.2 W (hW.below hW2) (hs.1.below hW2) hl hs.2)
 clear hW hs hW2 hh hB
 generalize a_z c.cols 1 = v at *
 generalize c.cols.length = l at *
 go_enter func166, ntmps166
 go_wp2_with (go_at_call 162; refine (HN.out).mono ?_; rintro e w1 ⟨rfl, hb1⟩)
 exact d_s
theorem s_K (b : Nat) (c : Chk) (p q r : Pl) (w : World) (hB : c_4 w b c p q r) (hW : a_v w 1 a_w) (hs : b_9 w q c.ocols) (hl : c.ocols.length ≤ 8796093022208) : b_8 w 167 #[a_f b] (a_z c.ocols 1) := by
 refine ⟨fun args W => by kernel_rfl, fun W hW2 => ?_⟩
 refine e_T ?_; intro hh
 refine _af ?_; intro c5
 have HN := a_2 (c_r q.1 c.ocols q.2 W (hW.below hW2) (hs.1.below hW2) hl hs.2)
 clear hW hs hW2 hh hB
 generalize a_z c.ocols 1 = v at *
 generalize c.ocols.length = l at *
 go_enter func167, ntmps167
 go_wp2_with (go_at_call 162; refine (HN.out).mono ?_; rintro e w1 ⟨rfl, hb1⟩)
 exact d_s
theorem t_o (b : Nat) (c : Chk) (p q r : Pl) (w : World) (hB : c_4 w b c p q r) : b_8 w 168 #[a_f b] (a_b (c.cols.length ≠ c.ocols.length) 8) := by
 refine ⟨fun args W => by kernel_rfl, fun W hW2 => ?_⟩
 refine e_T ?_; intro hh
 refine o_k ?_; intro c3
 refine _af ?_; intro c5
 clear hW2 hh hB
 generalize c.cols.length = l at *
 generalize c.ocols.length = m at *
 by_cases h1 : l < m
 ·have HR := a_2 (show a_b (l ≠ m) 8 = 8 from a_k o_)
  go_enter func168, ntmps168
  go_wp2_with (go_at_call 24; refine (a_8 _ _ _).mono ?_; rintro e w' ⟨rfl, rfl⟩)
  all_goals first | (exfalso; omega) | skip
  exact f_c
 by_cases h2 : m < l
 ·have HR := a_2 (show a_b (l ≠ m) 8 = 8 from a_k o_)
  go_enter func168, ntmps168
  go_wp2_with (go_at_call 24; refine (a_8 _ _ _).mono ?_; rintro e w' ⟨rfl, rfl⟩)
  all_goals first | (exfalso; omega) | skip
  exact f_c
 ·have HR := a_2 (show a_b (l ≠ m) 8 = 0 from a_G o_)
  go_enter func168, ntmps168
  go_wp2_with (go_at_call 24; refine (a_8 _ _ _).mono ?_; rintro e w' ⟨rfl, rfl⟩)
  all_goals first | (exfalso; omega) | skip
  exact f_c
theorem t_0 (b : Nat) (c : Chk) (p q r : Pl) (w : World) (hB : c_4 w b c p q r) (hW : a_v w 1 a_w) (hx : c.other.length ≤ maxLen) : b_8 w 169 #[a_f b] (a_L c.other) := by
 refine ⟨fun args W => by kernel_rfl, fun W hW2 => ?_⟩
 refine e_T ?_; intro hh
 refine s_4 ?_; intro c4 HN
 clear hW hx hW2 hh hB
 generalize a_L c.other = v at *
 generalize c.other = x at *
 go_enter func169, ntmps169
 go_wp2_with (go_at_call 59; refine (HN.out).mono ?_; rintro e w1 ⟨rfl, hb1⟩)
 exact d_s
theorem t_k (b : Nat) (c : Chk) (p q r : Pl) (w : World) (hB : c_4 w b c p q r) (hW : a_v w 1 a_w) (hn : b_q w r.1 c.cond) (hl : c.cond.length ≤ 8796093022208) (hx : b_Q c.cond) : b_8 w 170 #[a_f b] (a_u c.cond) := by
 refine ⟨fun args W => by kernel_rfl, fun W hW2 => ?_⟩
 refine e_T ?_; intro hh
 have c8 : W.cell? ⟨b, 8, none⟩ = some (slV r c.cond.length) := a_0 hh 8
 have HN := a_2 (b_m r.1 c.cond r.2 W (hW.below hW2) (hn.below hW2) hl hx)
 clear hW hn hx hW2 hh hB
 generalize a_u c.cond = v at *
 generalize c.cond.length = l at *
 go_enter func170, ntmps170
 go_wp2_with (go_at_call 99; refine (HN.out).mono ?_; rintro e w1 ⟨rfl, hb1⟩)
 exact d_s
theorem s_Z (b : Nat) (c : Chk) (p q r : Pl) (w : World) (hB : c_4 w b c p q r) : b_8 w 171 #[a_f b] (a_b (e_O c.ln c.ld = false ∨ e_O c.mn c.md = false) 1) := by
 refine ⟨fun args W => by kernel_rfl, fun W hW2 => ?_⟩
 refine e_T ?_; intro hh
 have c9 : W.cell? ⟨b, 9, none⟩ = some (.int .i64 c.ln) := a_0 hh 9
 have c10 : W.cell? ⟨b, 10, none⟩ = some (.int .i64 c.ld) := a_0 hh 10
 have c11 : W.cell? ⟨b, 11, none⟩ = some (.int .i64 c.mn) := a_0 hh 11
 have c12 : W.cell? ⟨b, 12, none⟩ = some (.int .i64 c.md) := a_0 hh 12
 have H1 := a_2 (fun V => d_h c.ln c.ld V)
 have H2 := a_2 (fun V => d_h c.mn c.md V)
 have HB := a_2 (fun w' (hb : Below W.heap.size W w') => show w'.cell? ⟨b, 11, none⟩ = some (.int .i64 c.mn) ∧ w'.cell? ⟨b, 12, none⟩ = some (.int .i64 c.md) from ⟨(hb.cell (p := ⟨b, 11, none⟩) (a_6 hh)).trans c11, (hb.cell (p := ⟨b, 12, none⟩) (a_6 hh)).trans c12⟩)
 clear hW2 hh hB
 generalize e_O c.ln c.ld = y1 at *
 generalize e_O c.mn c.md = y2 at *
 generalize c.ln = x1 at *
 generalize c.ld = x2 at *
 generalize c.mn = x3 at *
 generalize c.md = x4 at *
 cases y1 <;> cases y2
 all_goals
  go_enter func171, ntmps171
  go_wp2_with (first
   | (go_at_call 172; refine (H1.out _).mono ?_; rintro e w1 ⟨rfl, hb1⟩; obtain ⟨d1, d2⟩ := HB.out _ hb1; clear H1)
   | (go_at_call 172; refine (H2.out _).mono ?_; rintro e w2 ⟨rfl, hb2⟩)
   | (go_at_call 24; refine (a_8 _ _ _).mono ?_; rintro e w' ⟨rfl, rfl⟩))
  go_ret
  exact ⟨a_d (by simp [a_b]), by first | exact a_9 hb2 hb1 | exact hb1⟩
theorem q_y (b : Nat) (c : Chk) (p q r : Pl) (w : World) (hB : c_4 w b c p q r) : b_8 w 173 #[a_f b] (a_b (c.cols.length ≠ 1 ∨ c.ocols.length ≠ 1) 2) := by
 refine ⟨fun args W => by kernel_rfl, fun W hW2 => ?_⟩
 refine e_T ?_; intro hh
 refine o_k ?_; intro c3
 refine _af ?_; intro c5
 clear hW2 hh hB
 generalize c.cols.length = l at *
 generalize c.ocols.length = m at *
 by_cases h1 : l < 1
 ·have HR := a_2 (show a_b (l ≠ 1 ∨ m ≠ 1) 2 = 2 from a_k o_)
  go_enter func173, ntmps173
  go_wp2_with (go_at_call 24; refine (a_8 _ _ _).mono ?_; rintro e w' ⟨rfl, rfl⟩)
  all_goals first | (exfalso; omega) | skip
  exact f_c
 by_cases h2 : 1 < l
 ·have HR := a_2 (show a_b (l ≠ 1 ∨ m ≠ 1) 2 = 2 from a_k o_)
  go_enter func173, ntmps173
  go_wp2_with (go_at_call 24; refine (a_8 _ _ _).mono ?_; rintro e w' ⟨rfl, rfl⟩)
  all_goals first | (exfalso; omega) | skip
  exact f_c
 by_cases h3 : m < 1
 ·have HR := a_2 (show a_b (l ≠ 1 ∨ m ≠ 1) 2 = 2 from a_k o_)
  go_enter func173, ntmps173
  go_wp2_with (go_at_call 24; refine (a_8 _ _ _).mono ?_; rintro e w' ⟨rfl, rfl⟩)
  all_goals first | (exfalso; omega) | skip
  exact f_c
 by_cases h4 : 1 < m
 ·have HR := a_2 (show a_b (l ≠ 1 ∨ m ≠ 1) 2 = 2 from a_k o_)
  go_enter func173, ntmps173
  go_wp2_with (go_at_call 24; refine (a_8 _ _ _).mono ?_; rintro e w' ⟨rfl, rfl⟩)
  all_goals first | (exfalso; omega) | skip
  exact f_c
 ·have HR := a_2 (show a_b (l ≠ 1 ∨ m ≠ 1) 2 = 0 from a_G o_)
  go_enter func173, ntmps173
  go_wp2_with (go_at_call 24; refine (a_8 _ _ _).mono ?_; rintro e w' ⟨rfl, rfl⟩)
  all_goals first | (exfalso; omega) | skip
  exact f_c
theorem q_D (b : Nat) (c : Chk) (p q r : Pl) (w : World) (hB : c_4 w b c p q r) (hW : a_v w 1 a_w) (hs : b_9 w p c.cols) (hl : c.cols.length = 1) : b_8 w 174 #[a_f b] (a_F (c.cols.getD 0 [])) := by
 refine ⟨fun args W => by kernel_rfl, fun W hW2 => ?_⟩
 refine e_T ?_; intro hh
 refine o_k ?_; intro c3
 refine s_x ?_; intro HN hs2
 rcases hs2 with e | ⟨g, off, hA, hg, hc⟩
 ·rw [e] at hl; exact absurd hl s_
 have d0 := hc 0 o_
 rw [Nat.add_zero] at d0
 rw [show c.cols.getD 0 [] = c.cols[0] from by rw [List.getD_eq_getElem?_getD, List.getElem?_eq_getElem o_]; rfl] at HN ⊢
 obtain ⟨pA, pC⟩ := p
 simp only at hA c3
 subst hA
 rw [hl] at c3
 change W.cell? ⟨b, 3, none⟩ = some (.slice (some ⟨g, off, none⟩) 1 pC) at c3
 clear hW hs hc hW2 hh hB
 generalize a_F c.cols[0] = v at *
 generalize c.cols[0] = x at *
 go_enter func174, ntmps174
 go_wp2_with (go_at_call 22; refine (HN.out _ (b_ _ _)).mono ?_; rintro e w1 ⟨rfl, hb1⟩)
 exact d_s
theorem r_s (b : Nat) (c : Chk) (p q r : Pl) (w : World) (hB : c_4 w b c p q r) (hW : a_v w 1 a_w) (hs : b_9 w q c.ocols) (hl : c.ocols.length = 1) : b_8 w 175 #[a_f b] (a_F (c.ocols.getD 0 [])) := by
 refine ⟨fun args W => by kernel_rfl, fun W hW2 => ?_⟩
 refine e_T ?_; intro hh
 refine _af ?_; intro c5
 have HN := a_2 (fun V (hb : Below W.heap.size W V) => b_v (c.ocols.getD 0 []) V ((hW.below hW2).below hb))
 have hs2 := hs.1.below hW2
 rcases hs2 with e | ⟨g, off, hA, hg, hc⟩
 ·rw [e] at hl; exact absurd hl s_
 have d0 := hc 0 o_
 rw [Nat.add_zero] at d0
 rw [show c.ocols.getD 0 [] = c.ocols[0] from by rw [List.getD_eq_getElem?_getD, List.getElem?_eq_getElem o_]; rfl] at HN ⊢
 obtain ⟨pA, pC⟩ := q
 simp only at hA c5
 subst hA
 rw [hl] at c5
 change W.cell? ⟨b, 5, none⟩ = some (.slice (some ⟨g, off, none⟩) 1 pC) at c5
 clear hW hs hc hW2 hh hB
 generalize a_F c.ocols[0] = v at *
 generalize c.ocols[0] = x at *
 go_enter func175, ntmps175
 go_wp2_with (go_at_call 22; refine (HN.out _ (b_ _ _)).mono ?_; rintro e w1 ⟨rfl, hb1⟩)
 exact d_s
theorem q_z (b : Nat) (c : Chk) (p q r : Pl) (w : World) (hB : c_4 w b c p q r) (hW : a_v w 1 a_w) (hx : c.other.length ≤ maxLen) : b_8 w 176 #[a_f b] (a_L c.other) := by
 refine ⟨fun args W => by kernel_rfl, fun W hW2 => ?_⟩
 refine e_T ?_; intro hh
 refine s_4 ?_; intro c4 HN
 clear hW hx hW2 hh hB
 generalize a_L c.other = v at *
 generalize c.other = x at *
 go_enter func176, ntmps176
 go_wp2_with (go_at_call 59; refine (HN.out).mono ?_; rintro e w1 ⟨rfl, hb1⟩)
 exact d_s
set_option maxRecDepth 512
theorem f_w (a : Int) : a_c a 0 = a := by unfold a_c; split <;> simp_all
theorem h_L {p : Prop} [Decidable p] {e : Int} (h : a_b p e = 0) (he : e ≠ 0) : ¬ p := fun hp => he (by rw [a_k hp] at h; exact h)
set_option maxRecDepth 100000
theorem f_V (c : Chk) (p q r : Pl) (w : World) (hW : a_v w 1 a_w) (h1 : b_9 w p c.cols) (h2 : b_9 w q c.ocols) (h3 : b_q w r.1 c.cond) (ho : c.ok) :
  Calls prog 119 #[.agg #[str c.name, str c.table, .int .i64 c.kind, slV p c.cols.length, str c.other, slV q c.ocols.length, .int .i64 c.low, .int .i64 c.high, slV r c.cond.length, .int .i64 c.ln, .int .i64 c.ld, .int .i64 c.mn, .int .i64 c.md, .int .i64 c.pol]] w fun e w' => e = .returned (.int .i64 (e_c c)) ∧ Below w.heap.size w w' := by
 have hh : (w.alloc (.cells #[str c.name, str c.table, .int .i64 c.kind, slV p c.cols.length, str c.other, slV q c.ocols.length, .int .i64 c.low, .int .i64 c.high, slV r c.cond.length, .int .i64 c.ln, .int .i64 c.ld, .int .i64 c.mn, .int .i64 c.md, .int .i64 c.pol] 67)).heap[w.heap.size]? = some (.cells #[str c.name, str c.table, .int .i64 c.kind, slV p c.cols.length, str c.other, slV q c.ocols.length, .int .i64 c.low, .int .i64 c.high, slV r c.cond.length, .int .i64 c.ln, .int .i64 c.ld, .int .i64 c.mn, .int .i64 c.md, .int .i64 c.pol] 67) := heap_alloc_new _ _
 have hb0 : Below w.heap.size w (w.alloc (.cells #[str c.name, str c.table, .int .i64 c.kind, slV p c.cols.length, str c.other, slV q c.ocols.length, .int .i64 c.low, .int .i64 c.high, slV r c.cond.length, .int .i64 c.ln, .int .i64 c.ld, .int .i64 c.mn, .int .i64 c.md, .int .i64 c.pol] 67)) := zX
 refine s_0 ?_; intro HB
 have T4 := a_2 (fun W (h : Below (w.heap.size + 1) (w.alloc (.cells #[str c.name, str c.table, .int .i64 c.kind, slV p c.cols.length, str c.other, slV q c.ocols.length, .int .i64 c.low, .int .i64 c.high, slV r c.cond.length, .int .i64 c.ln, .int .i64 c.ld, .int .i64 c.mn, .int .i64 c.md, .int .i64 c.pol] 67)) W) => t_j w.heap.size c p q r W (HB W h).1 (hW.below (HB W h).2) (h1.below (HB W h).2) ho.cols)
 have T5 := a_2 (fun W (h : Below (w.heap.size + 1) (w.alloc (.cells #[str c.name, str c.table, .int .i64 c.kind, slV p c.cols.length, str c.other, slV q c.ocols.length, .int .i64 c.low, .int .i64 c.high, slV r c.cond.length, .int .i64 c.ln, .int .i64 c.ld, .int .i64 c.mn, .int .i64 c.md, .int .i64 c.pol] 67)) W) => s_K w.heap.size c p q r W (HB W h).1 (hW.below (HB W h).2) (h2.below (HB W h).2) ho.ocols)
 have T7 := a_2 (fun W (h : Below (w.heap.size + 1) (w.alloc (.cells #[str c.name, str c.table, .int .i64 c.kind, slV p c.cols.length, str c.other, slV q c.ocols.length, .int .i64 c.low, .int .i64 c.high, slV r c.cond.length, .int .i64 c.ln, .int .i64 c.ld, .int .i64 c.mn, .int .i64 c.md, .int .i64 c.pol] 67)) W) => t_0 w.heap.size c p q r W (HB W h).1 (hW.below (HB W h).2) ho.other)
 have T8 := a_2 (fun W (h : Below (w.heap.size + 1) (w.alloc (.cells #[str c.name, str c.table, .int .i64 c.kind, slV p c.cols.length, str c.other, slV q c.ocols.length, .int .i64 c.low, .int .i64 c.high, slV r c.cond.length, .int .i64 c.ln, .int .i64 c.ld, .int .i64 c.mn, .int .i64 c.md, .int .i64 c.pol] 67)) W) => t_k w.heap.size c p q r W (HB W h).1 (hW.below (HB W h).2) (h3.below (HB W h).2) ho.cond ho.condN)
 have T2 := a_2 (fun (hl : c.cols.length = 1) W (h : Below (w.heap.size + 1) (w.alloc (.cells #[str c.name, str c.table, .int .i64 c.kind, slV p c.cols.length, str c.other, slV q c.ocols.length, .int .i64 c.low, .int .i64 c.high, slV r c.cond.length, .int .i64 c.ln, .int .i64 c.ld, .int .i64 c.mn, .int .i64 c.md, .int .i64 c.pol] 67)) W) => s_P w.heap.size c p q r W (HB W h).1 (hW.below (HB W h).2) (h1.below (HB W h).2) hl)
 have T11 := a_2 (fun (hl : c.cols.length = 1) W (h : Below (w.heap.size + 1) (w.alloc (.cells #[str c.name, str c.table, .int .i64 c.kind, slV p c.cols.length, str c.other, slV q c.ocols.length, .int .i64 c.low, .int .i64 c.high, slV r c.cond.length, .int .i64 c.ln, .int .i64 c.ld, .int .i64 c.mn, .int .i64 c.md, .int .i64 c.pol] 67)) W) => q_D w.heap.size c p q r W (HB W h).1 (hW.below (HB W h).2) (h1.below (HB W h).2) hl)
 have T12 := a_2 (fun (hl : c.ocols.length = 1) W (h : Below (w.heap.size + 1) (w.alloc (.cells #[str c.name, str c.table, .int .i64 c.kind, slV p c.cols.length, str c.other, slV q c.ocols.length, .int .i64 c.low, .int .i64 c.high, slV r c.cond.length, .int .i64 c.ln, .int .i64 c.ld, .int .i64 c.mn, .int .i64 c.md, .int .i64 c.pol] 67)) W) => r_s w.heap.size c p q r W (HB W h).1 (hW.below (HB W h).2) (h2.below (HB W h).2) hl)
 have T13 := a_2 (fun W (h : Below (w.heap.size + 1) (w.alloc (.cells #[str c.name, str c.table, .int .i64 c.kind, slV p c.cols.length, str c.other, slV q c.ocols.length, .int .i64 c.low, .int .i64 c.high, slV r c.cond.length, .int .i64 c.ln, .int .i64 c.ld, .int .i64 c.mn, .int .i64 c.md, .int .i64 c.pol] 67)) W) => q_z w.heap.size c p q r W (HB W h).1 (hW.below (HB W h).2) ho.other)
 have HS := a_2 (fun W (h : Below w.heap.size w W) => c_r p.1 c.cols p.2 W (hW.below h) (h1.1.below h) ho.cols h1.2)
 have HX := a_2 (fun W (h : Below w.heap.size w W) => b_m r.1 c.cond r.2 W (hW.below h) (h3.below h) ho.cond ho.condN)
 have HBx := a_2 HB
 have hbox : Below (w.heap.size + 1) (w.alloc (.cells #[str c.name, str c.table, .int .i64 c.kind, slV p c.cols.length, str c.other, slV q c.ocols.length, .int .i64 c.low, .int .i64 c.high, slV r c.cond.length, .int .i64 c.ln, .int .i64 c.ld, .int .i64 c.mn, .int .i64 c.md, .int .i64 c.pol] 67)) (w.alloc (.cells #[str c.name, str c.table, .int .i64 c.kind, slV p c.cols.length, str c.other, slV q c.ocols.length, .int .i64 c.low, .int .i64 c.high, slV r c.cond.length, .int .i64 c.ln, .int .i64 c.ld, .int .i64 c.mn, .int .i64 c.md, .int .i64 c.pol] 67)) := b_ _ _
 have HE := a_2 (show e_c c = if c.kind = 0 ∨ c.kind = 1 then a_z c.cols 1
  else if c.kind = 2 then a_c (a_b (c.cols.length ≠ 1) 2) (a_c (a_F (c.cols.getD 0 [])) (a_b (c.low < -1073741824 ∨ c.high < c.low ∨ 1073741824 < c.high) 1))
  else if c.kind = 3 then a_c (a_z c.cols 1) (a_c (a_z c.ocols 1) (a_c (a_b (c.cols.length ≠ c.ocols.length) 8) (a_L c.other)))
  else if c.kind = 4 then a_u c.cond
  else if c.kind = 5 then a_c (a_u c.cond) (a_b (e_O c.ln c.ld = false ∨ e_O c.mn c.md = false) 1)
  else a_c (a_b (c.cols.length ≠ 1 ∨ c.ocols.length ≠ 1) 2) (a_c (a_F (c.cols.getD 0 [])) (a_c (a_F (c.ocols.getD 0 [])) (a_L c.other))) from rfl)
 generalize e_c c = res at *
 clear hW h1 h2 h3 ho hh HB
 by_cases k0 : c.kind = 0
 ·have b0 : (c.kind == 0) = true := by simpa using k0
  have HR := a_2 (show res = a_z c.cols 1 from by rw [HE.out]; simp [k0])
  clear HE T2 T4 T5 T7 T8 T11 T12 T13 k0
  go_enter func119, ntmps119
  go_wp2_with (go_at_call 162; refine (HS.out _ hb0).mono ?_; rintro e w1 ⟨rfl, hb1⟩)
  exact q_s
 have b0 : (c.kind == 0) = false := beq_eq_false_iff_ne.2 k0
 by_cases k1 : c.kind = 1
 ·have b1 : (c.kind == 1) = true := by simpa using k1
  have HR := a_2 (show res = a_z c.cols 1 from by rw [HE.out]; simp [k1])
  clear HE T2 T4 T5 T7 T8 T11 T12 T13 k1
  go_enter func119, ntmps119
  go_wp2_with (go_at_call 162; refine (HS.out _ hb0).mono ?_; rintro e w1 ⟨rfl, hb1⟩)
  exact q_s
 have b1 : (c.kind == 1) = false := beq_eq_false_iff_ne.2 k1
 by_cases k2 : c.kind = 2
 ·have b2 : (c.kind == 2) = true := by simpa using k2
  have HR := a_2 (show res = d_m [a_b (c.cols.length ≠ 1) 2, a_F (c.cols.getD 0 []), a_b (c.low < -1073741824 ∨ c.high < c.low ∨ 1073741824 < c.high) 1] from by rw [HE.out]; simp [k2, d_m, f_w])
  have HV : Below (w.heap.size + 1) (w.alloc (.cells #[str c.name, str c.table, .int .i64 c.kind, slV p c.cols.length, str c.other, slV q c.ocols.length, .int .i64 c.low, .int .i64 c.high, slV r c.cond.length, .int .i64 c.ln, .int .i64 c.ld, .int .i64 c.mn, .int .i64 c.md, .int .i64 c.pol] 67)) ((w.alloc (.cells #[str c.name, str c.table, .int .i64 c.kind, slV p c.cols.length, str c.other, slV q c.ocols.length, .int .i64 c.low, .int .i64 c.high, slV r c.cond.length, .int .i64 c.ln, .int .i64 c.ld, .int .i64 c.mn, .int .i64 c.md, .int .i64 c.pol] 67)).alloc (.cells #[.func (.func 163) #[] #[a_f w.heap.size], .func (.func 164) #[] #[a_f w.heap.size], .func (.func 165) #[] #[a_f w.heap.size]] 80)) := zX
  have K0 := t_b w.heap.size c p q r _ (HBx.out _ HV).1
  have K1 := fun hl => T2.out hl _ HV
  have K2 := t_p w.heap.size c p q r _ (HBx.out _ HV).1
  have HF := a_U (w.heap.size + 1) 3 [⟨163, #[a_f w.heap.size], a_b (c.cols.length ≠ 1) 2⟩, ⟨164, #[a_f w.heap.size], a_F (c.cols.getD 0 [])⟩, ⟨165, #[a_f w.heap.size], a_b (c.low < -1073741824 ∨ c.high < c.low ∨ 1073741824 < c.high) 1⟩] ((w.alloc (.cells #[str c.name, str c.table, .int .i64 c.kind, slV p c.cols.length, str c.other, slV q c.ocols.length, .int .i64 c.low, .int .i64 c.high, slV r c.cond.length, .int .i64 c.ln, .int .i64 c.ld, .int .i64 c.mn, .int .i64 c.md, .int .i64 c.pol] 67)).alloc (.cells #[.func (.func 163) #[] #[a_f w.heap.size], .func (.func 164) #[] #[a_f w.heap.size], .func (.func 165) #[] #[a_f w.heap.size]] 80)) s_ (show (3 : Nat) ≤ 10 from by decide)
   (fun j h => by
    have h9 : j < 3 := h
    match j, h9 with
    | 0, _ => simp [go_sem]
    | 1, _ => simp [go_sem]
    | 2, _ => simp [go_sem])
   (fun j h args W => by
    have h9 : j < 3 := h
    match j, h9 with
    | 0, _ => exact (show (callFunc 163 args).run prog W = .ok (.enter 163 args) W by kernel_rfl)
    | 1, _ => exact (show (callFunc 164 args).run prog W = .ok (.enter 164 args) W by kernel_rfl)
    | 2, _ => exact (show (callFunc 165 args).run prog W = .ok (.enter 165 args) W by kernel_rfl))
   (fun j h hz => by
    have h9 : j < 3 := h
    match j, h9 with
    | 0, _ => exact K0
    | 1, _ => exact K1 (by have h0 : a_b (c.cols.length ≠ 1) 2 = 0 := hz 0 o_; have := h_L h0 d_; omega)
    | 2, _ => exact K2)
  rw [show a_o (fun j => (([⟨163, #[a_f w.heap.size], a_b (c.cols.length ≠ 1) 2⟩, ⟨164, #[a_f w.heap.size], a_F (c.cols.getD 0 [])⟩, ⟨165, #[a_f w.heap.size], a_b (c.low < -1073741824 ∨ c.high < c.low ∨ 1073741824 < c.high) 1⟩] : List Thk).map Thk.v).getD j 0) ([⟨163, #[a_f w.heap.size], a_b (c.cols.length ≠ 1) 2⟩, ⟨164, #[a_f w.heap.size], a_F (c.cols.getD 0 [])⟩, ⟨165, #[a_f w.heap.size], a_b (c.low < -1073741824 ∨ c.high < c.low ∨ 1073741824 < c.high) 1⟩] : List Thk).length = res from (b_s [a_b (c.cols.length ≠ 1) 2, a_F (c.cols.getD 0 []), a_b (c.low < -1073741824 ∨ c.high < c.low ∨ 1073741824 < c.high) 1]).trans HR.out.symm] at HF
  refine p_E ?_; intro HF2 HV2
  clear HF HR HE K0 K1 K2 k2
  clear T2 T4 T5 T7 T8 T11 T12 T13 HS HX HBx
  go_enter func119, ntmps119
  go_wp2_with fail
  refine HF2.out.mono ?_
  rintro e w2 ⟨rfl, hb2⟩
  go_wp2
  exact p_F
 have b2 : (c.kind == 2) = false := beq_eq_false_iff_ne.2 k2
 by_cases k3 : c.kind = 3
 ·have b3 : (c.kind == 3) = true := by simpa using k3
  have HR := a_2 (show res = d_m [a_z c.cols 1, a_z c.ocols 1, a_b (c.cols.length ≠ c.ocols.length) 8, a_L c.other] from by rw [HE.out]; simp [k3, d_m, f_w])
  have HV : Below (w.heap.size + 1) (w.alloc (.cells #[str c.name, str c.table, .int .i64 c.kind, slV p c.cols.length, str c.other, slV q c.ocols.length, .int .i64 c.low, .int .i64 c.high, slV r c.cond.length, .int .i64 c.ln, .int .i64 c.ld, .int .i64 c.mn, .int .i64 c.md, .int .i64 c.pol] 67)) ((w.alloc (.cells #[str c.name, str c.table, .int .i64 c.kind, slV p c.cols.length, str c.other, slV q c.ocols.length, .int .i64 c.low, .int .i64 c.high, slV r c.cond.length, .int .i64 c.ln, .int .i64 c.ld, .int .i64 c.mn, .int .i64 c.md, .int .i64 c.pol] 67)).alloc (.cells #[.func (.func 166) #[] #[a_f w.heap.size], .func (.func 167) #[] #[a_f w.heap.size], .func (.func 168) #[] #[a_f w.heap.size], .func (.func 169) #[] #[a_f w.heap.size]] 80)) := zX
  have K0 := T4.out _ HV
  have K1 := T5.out _ HV
  have K2 := t_o w.heap.size c p q r _ (HBx.out _ HV).1
  have K3 := T7.out _ HV
  have HF := a_U (w.heap.size + 1) 4 [⟨166, #[a_f w.heap.size], a_z c.cols 1⟩, ⟨167, #[a_f w.heap.size], a_z c.ocols 1⟩, ⟨168, #[a_f w.heap.size], a_b (c.cols.length ≠ c.ocols.length) 8⟩, ⟨169, #[a_f w.heap.size], a_L c.other⟩] ((w.alloc (.cells #[str c.name, str c.table, .int .i64 c.kind, slV p c.cols.length, str c.other, slV q c.ocols.length, .int .i64 c.low, .int .i64 c.high, slV r c.cond.length, .int .i64 c.ln, .int .i64 c.ld, .int .i64 c.mn, .int .i64 c.md, .int .i64 c.pol] 67)).alloc (.cells #[.func (.func 166) #[] #[a_f w.heap.size], .func (.func 167) #[] #[a_f w.heap.size], .func (.func 168) #[] #[a_f w.heap.size], .func (.func 169) #[] #[a_f w.heap.size]] 80)) s_ (show (4 : Nat) ≤ 10 from by decide)
   (fun j h => by
    have h9 : j < 4 := h
    match j, h9 with
    | 0, _ => simp [go_sem]
    | 1, _ => simp [go_sem]
    | 2, _ => simp [go_sem]
    | 3, _ => simp [go_sem])
   (fun j h args W => by
    have h9 : j < 4 := h
    match j, h9 with
    | 0, _ => exact (show (callFunc 166 args).run prog W = .ok (.enter 166 args) W by kernel_rfl)
    | 1, _ => exact (show (callFunc 167 args).run prog W = .ok (.enter 167 args) W by kernel_rfl)
    | 2, _ => exact (show (callFunc 168 args).run prog W = .ok (.enter 168 args) W by kernel_rfl)
    | 3, _ => exact (show (callFunc 169 args).run prog W = .ok (.enter 169 args) W by kernel_rfl))
   (fun j h hz => by
    have h9 : j < 4 := h
    match j, h9 with
    | 0, _ => exact K0
    | 1, _ => exact K1
    | 2, _ => exact K2
    | 3, _ => exact K3)
  rw [show a_o (fun j => (([⟨166, #[a_f w.heap.size], a_z c.cols 1⟩, ⟨167, #[a_f w.heap.size], a_z c.ocols 1⟩, ⟨168, #[a_f w.heap.size], a_b (c.cols.length ≠ c.ocols.length) 8⟩, ⟨169, #[a_f w.heap.size], a_L c.other⟩] : List Thk).map Thk.v).getD j 0) ([⟨166, #[a_f w.heap.size], a_z c.cols 1⟩, ⟨167, #[a_f w.heap.size], a_z c.ocols 1⟩, ⟨168, #[a_f w.heap.size], a_b (c.cols.length ≠ c.ocols.length) 8⟩, ⟨169, #[a_f w.heap.size], a_L c.other⟩] : List Thk).length = res from (b_s [a_z c.cols 1, a_z c.ocols 1, a_b (c.cols.length ≠ c.ocols.length) 8, a_L c.other]).trans HR.out.symm] at HF
  refine p_E ?_; intro HF2 HV2
  clear HF HR HE K0 K1 K2 K3 k3
  clear T2 T4 T5 T7 T8 T11 T12 T13 HS HX HBx
  go_enter func119, ntmps119
  go_wp2_with fail
  refine HF2.out.mono ?_
  rintro e w2 ⟨rfl, hb2⟩
  go_wp2
  exact p_F
 have b3 : (c.kind == 3) = false := beq_eq_false_iff_ne.2 k3
 by_cases k4 : c.kind = 4
 ·have b4 : (c.kind == 4) = true := by simpa using k4
  have HR := a_2 (show res = a_u c.cond from by rw [HE.out]; simp [k4])
  clear HE T2 T4 T5 T7 T8 T11 T12 T13 k4
  go_enter func119, ntmps119
  go_wp2_with (go_at_call 99; refine (HX.out _ hb0).mono ?_; rintro e w1 ⟨rfl, hb1⟩)
  exact q_s
 have b4 : (c.kind == 4) = false := beq_eq_false_iff_ne.2 k4
 by_cases k5 : c.kind = 5
 ·have b5 : (c.kind == 5) = true := by simpa using k5
  have HR := a_2 (show res = d_m [a_u c.cond, a_b (e_O c.ln c.ld = false ∨ e_O c.mn c.md = false) 1] from by rw [HE.out]; simp [k5, d_m, f_w])
  have HV : Below (w.heap.size + 1) (w.alloc (.cells #[str c.name, str c.table, .int .i64 c.kind, slV p c.cols.length, str c.other, slV q c.ocols.length, .int .i64 c.low, .int .i64 c.high, slV r c.cond.length, .int .i64 c.ln, .int .i64 c.ld, .int .i64 c.mn, .int .i64 c.md, .int .i64 c.pol] 67)) ((w.alloc (.cells #[str c.name, str c.table, .int .i64 c.kind, slV p c.cols.length, str c.other, slV q c.ocols.length, .int .i64 c.low, .int .i64 c.high, slV r c.cond.length, .int .i64 c.ln, .int .i64 c.ld, .int .i64 c.mn, .int .i64 c.md, .int .i64 c.pol] 67)).alloc (.cells #[.func (.func 170) #[] #[a_f w.heap.size], .func (.func 171) #[] #[a_f w.heap.size]] 80)) := zX
  have K0 := T8.out _ HV
  have K1 := s_Z w.heap.size c p q r _ (HBx.out _ HV).1
  have HF := a_U (w.heap.size + 1) 2 [⟨170, #[a_f w.heap.size], a_u c.cond⟩, ⟨171, #[a_f w.heap.size], a_b (e_O c.ln c.ld = false ∨ e_O c.mn c.md = false) 1⟩] ((w.alloc (.cells #[str c.name, str c.table, .int .i64 c.kind, slV p c.cols.length, str c.other, slV q c.ocols.length, .int .i64 c.low, .int .i64 c.high, slV r c.cond.length, .int .i64 c.ln, .int .i64 c.ld, .int .i64 c.mn, .int .i64 c.md, .int .i64 c.pol] 67)).alloc (.cells #[.func (.func 170) #[] #[a_f w.heap.size], .func (.func 171) #[] #[a_f w.heap.size]] 80)) s_ (show (2 : Nat) ≤ 10 from by decide)
   (fun j h => by
    have h9 : j < 2 := h
    match j, h9 with
    | 0, _ => simp [go_sem]
    | 1, _ => simp [go_sem])
   (fun j h args W => by
    have h9 : j < 2 := h
    match j, h9 with
    | 0, _ => exact (show (callFunc 170 args).run prog W = .ok (.enter 170 args) W by kernel_rfl)
    | 1, _ => exact (show (callFunc 171 args).run prog W = .ok (.enter 171 args) W by kernel_rfl))
   (fun j h hz => by
    have h9 : j < 2 := h
    match j, h9 with
    | 0, _ => exact K0
    | 1, _ => exact K1)
  rw [show a_o (fun j => (([⟨170, #[a_f w.heap.size], a_u c.cond⟩, ⟨171, #[a_f w.heap.size], a_b (e_O c.ln c.ld = false ∨ e_O c.mn c.md = false) 1⟩] : List Thk).map Thk.v).getD j 0) ([⟨170, #[a_f w.heap.size], a_u c.cond⟩, ⟨171, #[a_f w.heap.size], a_b (e_O c.ln c.ld = false ∨ e_O c.mn c.md = false) 1⟩] : List Thk).length = res from (b_s [a_u c.cond, a_b (e_O c.ln c.ld = false ∨ e_O c.mn c.md = false) 1]).trans HR.out.symm] at HF
  refine p_E ?_; intro HF2 HV2
  clear HF HR HE K0 K1 k5
  clear T2 T4 T5 T7 T8 T11 T12 T13 HS HX HBx
  go_enter func119, ntmps119
  go_wp2_with fail
  refine HF2.out.mono ?_
  rintro e w2 ⟨rfl, hb2⟩
  go_wp2
  exact p_F
 have b5 : (c.kind == 5) = false := beq_eq_false_iff_ne.2 k5
 ·skip
  have HR := a_2 (show res = d_m [a_b (c.cols.length ≠ 1 ∨ c.ocols.length ≠ 1) 2, a_F (c.cols.getD 0 []), a_F (c.ocols.getD 0 []), a_L c.other] from by rw [HE.out]; simp [k0, k1, k2, k3, k4, k5, d_m, f_w])
  have HV : Below (w.heap.size + 1) (w.alloc (.cells #[str c.name, str c.table, .int .i64 c.kind, slV p c.cols.length, str c.other, slV q c.ocols.length, .int .i64 c.low, .int .i64 c.high, slV r c.cond.length, .int .i64 c.ln, .int .i64 c.ld, .int .i64 c.mn, .int .i64 c.md, .int .i64 c.pol] 67)) ((w.alloc (.cells #[str c.name, str c.table, .int .i64 c.kind, slV p c.cols.length, str c.other, slV q c.ocols.length, .int .i64 c.low, .int .i64 c.high, slV r c.cond.length, .int .i64 c.ln, .int .i64 c.ld, .int .i64 c.mn, .int .i64 c.md, .int .i64 c.pol] 67)).alloc (.cells #[.func (.func 173) #[] #[a_f w.heap.size], .func (.func 174) #[] #[a_f w.heap.size], .func (.func 175) #[] #[a_f w.heap.size], .func (.func 176) #[] #[a_f w.heap.size]] 80)) := zX
  have K0 := q_y w.heap.size c p q r _ (HBx.out _ HV).1
  have K1 := fun hl => T11.out hl _ HV
  have K2 := fun hl => T12.out hl _ HV
  have K3 := T13.out _ HV
  have HF := a_U (w.heap.size + 1) 4 [⟨173, #[a_f w.heap.size], a_b (c.cols.length ≠ 1 ∨ c.ocols.length ≠ 1) 2⟩, ⟨174, #[a_f w.heap.size], a_F (c.cols.getD 0 [])⟩, ⟨175, #[a_f w.heap.size], a_F (c.ocols.getD 0 [])⟩, ⟨176, #[a_f w.heap.size], a_L c.other⟩] ((w.alloc (.cells #[str c.name, str c.table, .int .i64 c.kind, slV p c.cols.length, str c.other, slV q c.ocols.length, .int .i64 c.low, .int .i64 c.high, slV r c.cond.length, .int .i64 c.ln, .int .i64 c.ld, .int .i64 c.mn, .int .i64 c.md, .int .i64 c.pol] 67)).alloc (.cells #[.func (.func 173) #[] #[a_f w.heap.size], .func (.func 174) #[] #[a_f w.heap.size], .func (.func 175) #[] #[a_f w.heap.size], .func (.func 176) #[] #[a_f w.heap.size]] 80)) s_ (show (4 : Nat) ≤ 10 from by decide)
   (fun j h => by
    have h9 : j < 4 := h
    match j, h9 with
    | 0, _ => simp [go_sem]
    | 1, _ => simp [go_sem]
    | 2, _ => simp [go_sem]
    | 3, _ => simp [go_sem])
   (fun j h args W => by
    have h9 : j < 4 := h
    match j, h9 with
    | 0, _ => exact (show (callFunc 173 args).run prog W = .ok (.enter 173 args) W by kernel_rfl)
    | 1, _ => exact (show (callFunc 174 args).run prog W = .ok (.enter 174 args) W by kernel_rfl)
    | 2, _ => exact (show (callFunc 175 args).run prog W = .ok (.enter 175 args) W by kernel_rfl)
    | 3, _ => exact (show (callFunc 176 args).run prog W = .ok (.enter 176 args) W by kernel_rfl))
   (fun j h hz => by
    have h9 : j < 4 := h
    match j, h9 with
    | 0, _ => exact K0
    | 1, _ => exact K1 (by have h0 : a_b (c.cols.length ≠ 1 ∨ c.ocols.length ≠ 1) 2 = 0 := hz 0 o_; have := h_L h0 d_; omega)
    | 2, _ => exact K2 (by have h0 : a_b (c.cols.length ≠ 1 ∨ c.ocols.length ≠ 1) 2 = 0 := hz 0 o_; have := h_L h0 d_; omega)
    | 3, _ => exact K3)
  rw [show a_o (fun j => (([⟨173, #[a_f w.heap.size], a_b (c.cols.length ≠ 1 ∨ c.ocols.length ≠ 1) 2⟩, ⟨174, #[a_f w.heap.size], a_F (c.cols.getD 0 [])⟩, ⟨175, #[a_f w.heap.size], a_F (c.ocols.getD 0 [])⟩, ⟨176, #[a_f w.heap.size], a_L c.other⟩] : List Thk).map Thk.v).getD j 0) ([⟨173, #[a_f w.heap.size], a_b (c.cols.length ≠ 1 ∨ c.ocols.length ≠ 1) 2⟩, ⟨174, #[a_f w.heap.size], a_F (c.cols.getD 0 [])⟩, ⟨175, #[a_f w.heap.size], a_F (c.ocols.getD 0 [])⟩, ⟨176, #[a_f w.heap.size], a_L c.other⟩] : List Thk).length = res from (b_s [a_b (c.cols.length ≠ 1 ∨ c.ocols.length ≠ 1) 2, a_F (c.cols.getD 0 []), a_F (c.ocols.getD 0 []), a_L c.other]).trans HR.out.symm] at HF
  refine p_E ?_; intro HF2 HV2
  clear HF HR HE K0 K1 K2 K3 k0 k1 k2 k3 k4 k5
  clear T2 T4 T5 T7 T8 T11 T12 T13 HS HX HBx
  go_enter func119, ntmps119
  go_wp2_with fail
  refine HF2.out.mono ?_
  rintro e w2 ⟨rfl, hb2⟩
  go_wp2
  exact p_F
set_option maxRecDepth 512
theorem r_z (n : Nat) : decide (0 < n) = (n != 0) := by cases n <;> simp
theorem m_I (c : Chk) : c_Z c = (((c.kind == 4 || c.kind == 5) && c.cols.length != 0) || (!(c.kind == 3 || c.kind == 6) && (c.other != [] || c.ocols.length != 0)) || (c.kind != 2 && (c.low != 0 || c.high != 0)) || (!(c.kind == 4 || c.kind == 5) && c.cond.length != 0) || (c.kind != 5 && (c.ln != 0 || c.ld != 0 || c.mn != 0 || c.md != 0))) := rfl
set_option maxRecDepth 100000
theorem f_b (c : Chk) (p q r : Pl) (w : World) (h0 : 0 ≤ c.kind) (h6 : c.kind ≤ 6) :
  Calls prog 117 #[.agg #[str c.name, str c.table, .int .i64 c.kind, slV p c.cols.length, str c.other, slV q c.ocols.length, .int .i64 c.low, .int .i64 c.high, slV r c.cond.length, .int .i64 c.ln, .int .i64 c.ld, .int .i64 c.mn, .int .i64 c.md, .int .i64 c.pol]] w fun e w' => e = .returned (.bool (!c_Z c)) ∧ Below w.heap.size w w' := by
 have HE := a_2 (m_I c)
 generalize c_Z c = res at *
 obtain ⟨nm, tb, k, cs, x, os, y, z, cd, a1, a2, a3, a4, po⟩ := c
 simp only at HE h0 h6
 show Calls prog 117 #[.agg #[str nm, str tb, .int .i64 k, slV p cs.length, str x, slV q os.length, .int .i64 y, .int .i64 z, slV r cd.length, .int .i64 a1, .int .i64 a2, .int .i64 a3, .int .i64 a4, .int .i64 po]] w _
 generalize cs.length = l1 at *
 generalize os.length = l2 at *
 generalize cd.length = l3 at *
 obtain ⟨W1, hW1⟩ : ∃ W1, W1 = w.alloc (.cells #[str nm, str tb, .int .i64 k, slV p l1, str x, slV q l2, .int .i64 y, .int .i64 z, slV r l3, .int .i64 a1, .int .i64 a2, .int .i64 a3, .int .i64 a4, .int .i64 po] 67) := ⟨_, rfl⟩
 have hbel : Below w.heap.size w W1 := by rw [hW1]; exact zX
 have hx : x = [] ∨ ((x == []) = false ∧ (x != []) = true) := by
  by_cases hx : x = []
  ·exact .inl hx
  ·exact .inr ⟨beq_eq_false_iff_ne.2 hx, by simpa using hx⟩
 have hy : y = 0 ∨ ((y == 0) = false ∧ (y != 0) = true) := by
  by_cases hx : y = 0
  ·exact .inl hx
  ·exact .inr ⟨beq_eq_false_iff_ne.2 hx, by simpa using hx⟩
 have ha : (a1 = 0 ∧ a2 = 0) ∨ ((a1 == 0) = false) ∨ (a1 = 0 ∧ (a2 == 0) = false) := by
  by_cases e1 : a1 = 0
  ·by_cases e2 : a2 = 0
   ·exact .inl ⟨e1, e2⟩
   ·exact .inr (.inr ⟨e1, beq_eq_false_iff_ne.2 e2⟩)
  ·exact .inr (.inl (beq_eq_false_iff_ne.2 e1))
 have hb : (a3 = 0 ∧ a4 = 0) ∨ ((a3 == 0) = false) ∨ (a3 = 0 ∧ (a4 == 0) = false) := by
  by_cases e1 : a3 = 0
  ·by_cases e2 : a4 = 0
   ·exact .inl ⟨e1, e2⟩
   ·exact .inr (.inr ⟨e1, beq_eq_false_iff_ne.2 e2⟩)
  ·exact .inr (.inl (beq_eq_false_iff_ne.2 e1))
 go_enter func117, ntmps117
 go_upto_region 1 with fail
 rw [← hW1]
 go_cut [3, 4, 5, 6, 7] from 3 (fun s3 s4 s5 s6 s7 wx => ∃ b1 b2 b3 b4 b5 : Bool, s3 = .bool b1 ∧ s4 = .bool b2 ∧ s5 = .bool b3 ∧ s6 = .bool b4 ∧ s7 = .bool b5 ∧ b1 = (l1 != 0) ∧ b2 = (x != [] || l2 != 0) ∧ b3 = (y != 0 || z != 0) ∧ b4 = (l3 != 0) ∧ b5 = (a1 != 0 || a2 != 0 || a3 != 0 || a4 != 0) ∧ Below w.heap.size w wx ∧ wx.cell? ⟨w.heap.size, 2, none⟩ = some (.int .i64 k))
 case first =>
  have w0 := a_0 (show W1.heap[w.heap.size]? = some (.cells #[str nm, str tb, .int .i64 k, slV p l1, str x, slV q l2, .int .i64 y, .int .i64 z, slV r l3, .int .i64 a1, .int .i64 a2, .int .i64 a3, .int .i64 a4, .int .i64 po] 67) from by rw [hW1]; exact heap_alloc_new _ _)
  have f2 := w0 2
  have f3 := w0 3
  have f4 := w0 4
  have f5 := w0 5
  have f6 := w0 6
  have f7 := w0 7
  have f8 := w0 8
  have f9 := w0 9
  have f10 := w0 10
  have f11 := w0 11
  have f12 := w0 12
  simp at f2 f3 f4 f5 f6 f7 f8 f9 f10 f11 f12
  clear w0 hW1 HE
  rcases hx with rfl | ⟨hx, hx2⟩ <;> rcases hy with rfl | ⟨hy, hy2⟩ <;> rcases ha with ⟨rfl, rfl⟩ | ha | ⟨rfl, ha⟩ <;> rcases hb with ⟨rfl, rfl⟩ | hb | ⟨rfl, hb⟩
  all_goals
   go_big_quiet (fail)
   go_wp2_with fail
   go_meet
   exact ⟨_, _, _, _, _, rfl, rfl, rfl, rfl, rfl, by simp [r_z], by simp_all [r_z], by simp_all, by simp [r_z], by simp_all [bne], a_4 hbel _, f2⟩
 case rest =>
  obtain ⟨b1, b2, b3, b4, b5, rfl, rfl, rfl, rfl, rfl, e1, e2, e3, e4, e5, hbx, f2⟩ := hcut
  rw [← e1, ← e2, ← e3, ← e4, ← e5] at HE
  clear e1 e2 e3 e4 e5 hx hy ha hb hW1
  have hk : k = 0 ∨ k = 1 ∨ k = 2 ∨ k = 3 ∨ k = 4 ∨ k = 5 ∨ k = 6 := by omega
  rcases hk with rfl | rfl | rfl | rfl | rfl | rfl | rfl
  all_goals
   go_wp2_with fail
   all_goals
    go_ret
    exact ⟨a_a (by rw [HE.out]; simp_all), hbx⟩
theorem t_7 (b : Nat) (c : Chk) (p q r : Pl) (w : World) (hB : c_4 w b c p q r) (hW : a_v w 1 a_w) (hx : c.table.length ≤ maxLen) : b_8 w 114 #[a_f b] (a_L c.table) := by
 refine ⟨fun args W => by kernel_rfl, fun W hW2 => ?_⟩
 refine e_T ?_; intro hh
 have c1 : W.cell? ⟨b, 1, none⟩ = some (str c.table) := a_0 hh 1
 have HN := a_2 (a_O c.table W (hW.below hW2) hx)
 clear hW hx hW2 hh hB
 generalize a_L c.table = v at *
 generalize c.table = x at *
 go_enter func114, ntmps114
 go_wp2_with (go_at_call 59; refine (HN.out).mono ?_; rintro e w1 ⟨rfl, hb1⟩)
 exact d_s
theorem s_V (b : Nat) (c : Chk) (p q r : Pl) (w : World) (hB : c_4 w b c p q r) : b_8 w 115 #[a_f b] (a_b (c.kind < 0 ∨ 6 < c.kind ∨ c.pol < 0 ∨ 2 < c.pol) 1) := by
 refine ⟨fun args W => by kernel_rfl, fun W hW2 => ?_⟩
 refine e_T ?_; intro hh
 refine s_q ?_; intro c2 c13
 clear hW2 hh hB
 generalize c.kind = x at *
 generalize c.pol = y at *
 by_cases h1 : x < 0
 ·have HR := a_2 (show a_b (x < 0 ∨ 6 < x ∨ y < 0 ∨ 2 < y) 1 = 1 from a_k o_)
  go_enter func115, ntmps115
  go_wp2_with (go_at_call 24; refine (a_8 _ _ _).mono ?_; rintro e w' ⟨rfl, rfl⟩)
  all_goals first | (exfalso; omega) | skip
  exact f_c
 by_cases h2 : 6 < x
 ·have HR := a_2 (show a_b (x < 0 ∨ 6 < x ∨ y < 0 ∨ 2 < y) 1 = 1 from a_k o_)
  go_enter func115, ntmps115
  go_wp2_with (go_at_call 24; refine (a_8 _ _ _).mono ?_; rintro e w' ⟨rfl, rfl⟩)
  all_goals first | (exfalso; omega) | skip
  exact f_c
 by_cases h3 : y < 0
 ·have HR := a_2 (show a_b (x < 0 ∨ 6 < x ∨ y < 0 ∨ 2 < y) 1 = 1 from a_k o_)
  go_enter func115, ntmps115
  go_wp2_with (go_at_call 24; refine (a_8 _ _ _).mono ?_; rintro e w' ⟨rfl, rfl⟩)
  all_goals first | (exfalso; omega) | skip
  exact f_c
 by_cases h4 : 2 < y
 ·have HR := a_2 (show a_b (x < 0 ∨ 6 < x ∨ y < 0 ∨ 2 < y) 1 = 1 from a_k o_)
  go_enter func115, ntmps115
  go_wp2_with (go_at_call 24; refine (a_8 _ _ _).mono ?_; rintro e w' ⟨rfl, rfl⟩)
  all_goals first | (exfalso; omega) | skip
  exact f_c
 ·have HR := a_2 (show a_b (x < 0 ∨ 6 < x ∨ y < 0 ∨ 2 < y) 1 = 0 from a_G o_)
  go_enter func115, ntmps115
  go_wp2_with (go_at_call 24; refine (a_8 _ _ _).mono ?_; rintro e w' ⟨rfl, rfl⟩)
  all_goals first | (exfalso; omega) | skip
  exact f_c
theorem t_c (b : Nat) (c : Chk) (p q r : Pl) (w : World) (hB : c_4 w b c p q r) (h0 : 0 ≤ c.kind) (h6 : c.kind ≤ 6) : b_8 w 116 #[a_f b] (a_b (c_Z c = true) 8) := by
 refine ⟨fun args W => by kernel_rfl, fun W hW2 => ?_⟩
 refine s_d ?_; intro hh c0 c1 c2 c3 c4 c5 c6 c7 c8 c9 c10 c11 c12 c13
 have HS := a_2 (f_b c p q r W h0 h6)
 clear hW2 hh hB h0 h6
 generalize c_Z c = z at *
 obtain ⟨nm, tb, k, cs, x, os, y, z2, cd, a1, a2, a3, a4, po⟩ := c
 simp only at HS c0 c1 c2 c3 c4 c5 c6 c7 c8 c9 c10 c11 c12 c13
 cases z
 all_goals
  go_enter func116, ntmps116
  go_wp2_with (first
   | (go_at_call 117; refine (HS.out).mono ?_; rintro e w1 ⟨rfl, hb1⟩)
   | (go_at_call 24; refine (a_8 _ _ _).mono ?_; rintro e w' ⟨rfl, rfl⟩))
  go_ret
  exact ⟨a_d (by simp [a_b]), hb1⟩
theorem t_3 (b : Nat) (c : Chk) (p q r : Pl) (w : World) (hB : c_4 w b c p q r) (hW : a_v w 1 a_w) (h1 : b_9 w p c.cols) (h2 : b_9 w q c.ocols) (h3 : b_q w r.1 c.cond) (ho : c.ok) : b_8 w 118 #[a_f b] (e_c c) := by
 refine ⟨fun args W => by kernel_rfl, fun W hW2 => ?_⟩
 refine s_d ?_; intro hh c0 c1 c2 c3 c4 c5 c6 c7 c8 c9 c10 c11 c12 c13
 have HS := a_2 (f_V c p q r W (hW.below hW2) (h1.below hW2) (h2.below hW2) (h3.below hW2) ho)
 clear hW h1 h2 h3 ho hW2 hh hB
 generalize e_c c = z at *
 obtain ⟨nm, tb, k, cs, x, os, y, z2, cd, a1, a2, a3, a4, po⟩ := c
 simp only at HS c0 c1 c2 c3 c4 c5 c6 c7 c8 c9 c10 c11 c12 c13
 go_enter func118, ntmps118
 go_wp2_with (go_at_call 119; refine (HS.out).mono ?_; rintro e w1 ⟨rfl, hb1⟩)
 exact d_s
theorem t_m (b : Nat) (c : Chk) (p q r : Pl) (w : World) (hB : c_4 w b c p q r) : b_8 w 120 #[a_f b] (a_b (c.pol = 0 ∧ 5 ≤ c.kind) 7) := by
 refine ⟨fun args W => by kernel_rfl, fun W hW2 => ?_⟩
 refine e_T ?_; intro hh
 refine s_q ?_; intro c2 c13
 clear hW2 hh hB
 generalize c.kind = x at *
 generalize c.pol = y at *
 by_cases h1 : y = 0
 ·have h1b : (y == 0) = true := by simpa using h1
  by_cases h2 : 5 ≤ x
  ·have HR := a_2 (show a_b (y = 0 ∧ 5 ≤ x) 7 = 7 from a_k ⟨h1, h2⟩)
   clear h1
   go_enter func120, ntmps120
   go_wp2_with (go_at_call 24; refine (a_8 _ _ _).mono ?_; rintro e w' ⟨rfl, rfl⟩)
   all_goals first | (exfalso; omega) | skip
   exact f_c
  ·have HR := a_2 (show a_b (y = 0 ∧ 5 ≤ x) 7 = 0 from a_G o_)
   clear h1
   go_enter func120, ntmps120
   go_wp2_with (go_at_call 24; refine (a_8 _ _ _).mono ?_; rintro e w' ⟨rfl, rfl⟩)
   all_goals first | (exfalso; omega) | skip
   exact f_c
 ·have h1b : (y == 0) = false := beq_eq_false_iff_ne.2 h1
  have HR := a_2 (show a_b (y = 0 ∧ 5 ≤ x) 7 = 0 from a_G o_)
  clear h1
  go_enter func120, ntmps120
  go_wp2_with (go_at_call 24; refine (a_8 _ _ _).mono ?_; rintro e w' ⟨rfl, rfl⟩)
  exact f_c
theorem f_y (c : Chk) (p q r : Pl) (w : World) (hW : a_v w 1 a_w) (h1 : b_9 w p c.cols) (h2 : b_9 w q c.ocols) (h3 : b_q w r.1 c.cond) (ho : c.ok) :
  Calls prog 63 #[.agg #[str c.name, str c.table, .int .i64 c.kind, slV p c.cols.length, str c.other, slV q c.ocols.length, .int .i64 c.low, .int .i64 c.high, slV r c.cond.length, .int .i64 c.ln, .int .i64 c.ld, .int .i64 c.mn, .int .i64 c.md, .int .i64 c.pol]] w fun e w' => e = .returned (.int .i64 (e_x c)) ∧ Below w.heap.size w w' := by
 refine s_0 ?_; intro HB
 have T1 := a_2 (fun W (h : Below (w.heap.size + 1) (w.alloc (.cells #[str c.name, str c.table, .int .i64 c.kind, slV p c.cols.length, str c.other, slV q c.ocols.length, .int .i64 c.low, .int .i64 c.high, slV r c.cond.length, .int .i64 c.ln, .int .i64 c.ld, .int .i64 c.mn, .int .i64 c.md, .int .i64 c.pol] 67)) W) => t_7 w.heap.size c p q r W (HB W h).1 (hW.below (HB W h).2) ho.table)
 have T4 := a_2 (fun W (h : Below (w.heap.size + 1) (w.alloc (.cells #[str c.name, str c.table, .int .i64 c.kind, slV p c.cols.length, str c.other, slV q c.ocols.length, .int .i64 c.low, .int .i64 c.high, slV r c.cond.length, .int .i64 c.ln, .int .i64 c.ld, .int .i64 c.mn, .int .i64 c.md, .int .i64 c.pol] 67)) W) => t_3 w.heap.size c p q r W (HB W h).1 (hW.below (HB W h).2) (h1.below (HB W h).2) (h2.below (HB W h).2) (h3.below (HB W h).2) ho)
 have HBx := a_2 HB
 have HR := a_2 (show e_x c = d_m [a_L c.table, a_b (c.kind < 0 ∨ 6 < c.kind ∨ c.pol < 0 ∨ 2 < c.pol) 1, a_b (c_Z c = true) 8, e_c c, a_b (c.pol = 0 ∧ 5 ≤ c.kind) 7] from by unfold e_x; simp only [d_m, f_w])
 generalize e_x c = res at *
 clear hW h1 h2 h3 ho HB
 have HV : Below (w.heap.size + 1) (w.alloc (.cells #[str c.name, str c.table, .int .i64 c.kind, slV p c.cols.length, str c.other, slV q c.ocols.length, .int .i64 c.low, .int .i64 c.high, slV r c.cond.length, .int .i64 c.ln, .int .i64 c.ld, .int .i64 c.mn, .int .i64 c.md, .int .i64 c.pol] 67)) ((w.alloc (.cells #[str c.name, str c.table, .int .i64 c.kind, slV p c.cols.length, str c.other, slV q c.ocols.length, .int .i64 c.low, .int .i64 c.high, slV r c.cond.length, .int .i64 c.ln, .int .i64 c.ld, .int .i64 c.mn, .int .i64 c.md, .int .i64 c.pol] 67)).alloc (.cells #[.func (.func 114) #[] #[a_f w.heap.size], .func (.func 115) #[] #[a_f w.heap.size], .func (.func 116) #[] #[a_f w.heap.size], .func (.func 118) #[] #[a_f w.heap.size], .func (.func 120) #[] #[a_f w.heap.size]] 80)) := zX
 have K0 := T1.out _ HV
 have K1 := s_V w.heap.size c p q r _ (HBx.out _ HV).1
 have K2 := fun (hk : ¬ (c.kind < 0 ∨ 6 < c.kind ∨ c.pol < 0 ∨ 2 < c.pol)) => t_c w.heap.size c p q r _ (HBx.out _ HV).1 o_ o_
 have K3 := T4.out _ HV
 have K4 := t_m w.heap.size c p q r _ (HBx.out _ HV).1
 have HF := a_U (w.heap.size + 1) 5 [⟨114, #[a_f w.heap.size], a_L c.table⟩, ⟨115, #[a_f w.heap.size], a_b (c.kind < 0 ∨ 6 < c.kind ∨ c.pol < 0 ∨ 2 < c.pol) 1⟩, ⟨116, #[a_f w.heap.size], a_b (c_Z c = true) 8⟩, ⟨118, #[a_f w.heap.size], e_c c⟩, ⟨120, #[a_f w.heap.size], a_b (c.pol = 0 ∧ 5 ≤ c.kind) 7⟩] ((w.alloc (.cells #[str c.name, str c.table, .int .i64 c.kind, slV p c.cols.length, str c.other, slV q c.ocols.length, .int .i64 c.low, .int .i64 c.high, slV r c.cond.length, .int .i64 c.ln, .int .i64 c.ld, .int .i64 c.mn, .int .i64 c.md, .int .i64 c.pol] 67)).alloc (.cells #[.func (.func 114) #[] #[a_f w.heap.size], .func (.func 115) #[] #[a_f w.heap.size], .func (.func 116) #[] #[a_f w.heap.size], .func (.func 118) #[] #[a_f w.heap.size], .func (.func 120) #[] #[a_f w.heap.size]] 80)) s_ (show (5 : Nat) ≤ 10 from by decide)
  (fun j h => by
   have h9 : j < 5 := h
   match j, h9 with
   | 0, _ => simp [go_sem]
   | 1, _ => simp [go_sem]
   | 2, _ => simp [go_sem]
   | 3, _ => simp [go_sem]
   | 4, _ => simp [go_sem])
  (fun j h args W => by
   have h9 : j < 5 := h
   match j, h9 with
   | 0, _ => exact (show (callFunc 114 args).run prog W = .ok (.enter 114 args) W by kernel_rfl)
   | 1, _ => exact (show (callFunc 115 args).run prog W = .ok (.enter 115 args) W by kernel_rfl)
   | 2, _ => exact (show (callFunc 116 args).run prog W = .ok (.enter 116 args) W by kernel_rfl)
   | 3, _ => exact (show (callFunc 118 args).run prog W = .ok (.enter 118 args) W by kernel_rfl)
   | 4, _ => exact (show (callFunc 120 args).run prog W = .ok (.enter 120 args) W by kernel_rfl))
  (fun j h hz => by
   have h9 : j < 5 := h
   match j, h9 with
   | 0, _ => exact K0
   | 1, _ => exact K1
   | 2, _ => exact K2 (by have h0 : a_b (c.kind < 0 ∨ 6 < c.kind ∨ c.pol < 0 ∨ 2 < c.pol) 1 = 0 := hz 1 o_; exact h_L h0 d_)
   | 3, _ => exact K3
   | 4, _ => exact K4)
 rw [show a_o (fun j => (([⟨114, #[a_f w.heap.size], a_L c.table⟩, ⟨115, #[a_f w.heap.size], a_b (c.kind < 0 ∨ 6 < c.kind ∨ c.pol < 0 ∨ 2 < c.pol) 1⟩, ⟨116, #[a_f w.heap.size], a_b (c_Z c = true) 8⟩, ⟨118, #[a_f w.heap.size], e_c c⟩, ⟨120, #[a_f w.heap.size], a_b (c.pol = 0 ∧ 5 ≤ c.kind) 7⟩] : List Thk).map Thk.v).getD j 0) ([⟨114, #[a_f w.heap.size], a_L c.table⟩, ⟨115, #[a_f w.heap.size], a_b (c.kind < 0 ∨ 6 < c.kind ∨ c.pol < 0 ∨ 2 < c.pol) 1⟩, ⟨116, #[a_f w.heap.size], a_b (c_Z c = true) 8⟩, ⟨118, #[a_f w.heap.size], e_c c⟩, ⟨120, #[a_f w.heap.size], a_b (c.pol = 0 ∧ 5 ≤ c.kind) 7⟩] : List Thk).length = res from (b_s [a_L c.table, a_b (c.kind < 0 ∨ 6 < c.kind ∨ c.pol < 0 ∨ 2 < c.pol) 1, a_b (c_Z c = true) 8, e_c c, a_b (c.pol = 0 ∧ 5 ≤ c.kind) 7]).trans HR.out.symm] at HF
 refine p_E ?_; intro HF2 HV2
 clear HF HR K0 K1 K2 K3 K4
 clear T1 T4 HBx
 go_enter func63, ntmps63
 go_wp2_with fail
 refine HF2.out.mono ?_
 rintro e w2 ⟨rfl, hb2⟩
 go_wp2
 exact p_F
end Go.Proofs.YtnpjibaolicbmaaGreatDoor
