/- Parts of the proof. -/
import Derived.Test.YtnpjibaolicbmaaGreatDoorPp34
import Derived.Test.YtnpjibaolicbmaaGreatDoorPp31
import Derived.Deep.CutRange
set_option linter.unusedVariables false
set_option linter.unusedSimpArgs false
set_option maxHeartbeats 16000000
namespace Go.Proofs.YtnpjibaolicbmaaGreatDoor
open Go.Proofs.Tryz
open Go.RowKit
theorem i_t (ps : List a_3) (es : List Nd) : d_0 ps es = (d_c es).any fun x => !c_N ps x := by
 apply Bool.eq_iff_iff.2
 unfold d_0
 rw [List.any_eq_true, List.any_eq_true]
 constructor
 ·rintro ⟨n, hn, h⟩
  simp only [Bool.and_eq_true, beq_iff_eq] at h
  exact ⟨n.name, (j_n es _).2 ⟨n, hn, h.1, rfl⟩, h.2⟩
 ·rintro ⟨x, hx, h⟩
  obtain ⟨n, hn, h1, rfl⟩ := (j_n es _).1 hx
  exact ⟨n, hn, by simp [h1, h]⟩
theorem l_e {es : List Nd} (h : a_u es = 0) : es.length ≤ 256 := by
 apply Decidable.byContradiction
 intro h2
 unfold a_u at h
 rw [if_pos o_] at h
 cases h
theorem k_0 {w : World} {A : Option Addr} {l : List a_3} (h : d_y w A l) : b_b w A l := h
set_option maxRecDepth 100000
theorem g_2 (m : Mac) (p q : Pl) (w : World) (h1 : b_9 w p m.params) (h2 : b_q w q.1 m.body) (ho : m.ok) :
  Calls prog 124 #[.agg #[str m.name, slV p m.params.length, slV q m.body.length]] w fun e w' => e = .returned (.int .i64 (e_i m)) ∧ Below w.heap.size w w' := by
 have HA := a_2 h1.1
 have HB := a_2 (show Below (w.heap.size + 1) (w.alloc (.cells #[str m.name, slV p m.params.length, slV q m.body.length] 74)) (w.alloc (.cells #[str m.name, slV p m.params.length, slV q m.body.length] 74)) from b_ _ _)
 have HM := a_2 (show e_i m = a_c (f_9 m.params 8) (a_c (a_u m.body) (a_b (((d_c m.body).any fun x => !c_N m.params x) = true) 5)) from by unfold e_i; rw [i_t])
 have HV := a_2 (fun W (hb : Below w.heap.size w W) => b_l q.1 m.body q.2 W (h2.below hb) ho.body ho.bodyN)
 have HK := a_2 (fun (hv : m.body.length ≤ 256) W (hb : Below w.heap.size w W) => f_P q.1 m.body q.2 W (h2.below hb) o_)
 have hcp := h1.2
 have hpl := ho.params
 have H5 := a_2 (fun x W (hb : Below w.heap.size w W) => d_a p.1 m.params p.2 x W (h1.1.below hb) hpl)
 obtain ⟨A, cp⟩ := p
 obtain ⟨B, cb⟩ := q
 simp only at *
 clear h1 h2 ho
 generalize e_i m = r at *
 generalize m.params = l at *
 generalize m.body = es at *
 generalize m.name = nm at *
 by_cases h8 : 8 < l.length
 ·have HR := a_2 (show r = 2 from HM.out.trans (by unfold f_9; rw [if_pos h8]; exact a_h d_))
  clear HM
  go_enter func124, ntmps124
  go_wp2_with fail
  all_goals first | (exfalso; omega) | skip
  exact k_4
 have HE := a_2 (show r = a_c (a_o (d_O l) l.length) (a_c (a_u es) (a_b (((d_c es).any fun x => !c_N l x) = true) 5)) from HM.out.trans (by unfold f_9; rw [if_neg h8]))
 clear HM
 go_enter func124, ntmps124
 go_wp2_with fail
 all_goals first | (exfalso; omega) | skip
 go_loopw [3] (fun i wr => ∃ k : Nat, k ≤ l.length ∧ i = .int .i64 k ∧ Hid (∀ j, j < k → d_O l j = 0) ∧ Below (w.heap.size + 1) (w.alloc (.cells #[str nm, .slice A l.length cp, .slice B es.length cb] 74)) wr) (fun i _ => l.length - (intOf i).toNat)
 case atStart => exact ⟨0, o_, rfl, fun j hj => absurd hj (Nat.not_lt_zero _), HB.out⟩
 case round =>
  obtain ⟨k, hk, rfl, HZ, hx0⟩ := hrel
  obtain ⟨c0, c1, c2, hlw⟩ := bx3 hx0
  have hbel := a_5 hx0
  by_cases hlt : k < l.length
  ·clear HV HK H5
   rcases HA.out.below hbel with e | ⟨g, off, rfl, hg, hc⟩
   ·exact absurd hlt e_
   have d0 := hc k hlt; have HC := a_2 (fun W => d_7 l[k] W)
   have HH := a_2 (fun W (hb : Below wr.heap.size wr W) => by
    have := d_a (some ⟨g, off, none⟩) (l.take k) cp l[k] W ((b_F hg hc k).below hb) (by rw [List.length_take]; omega); rw [List.length_take, Nat.min_eq_left (Nat.le_of_lt hlt)] at this
    exact this)
   have HT := a_2 (f_f hlt); have HC2 := a_2 (fun W (hb : Below wr.heap.size wr W) => (hb.cell (p := ⟨g, off + k, none⟩) hg).trans d0); have HF := a_2 (fun x (e : d_O l k = x) (hx : x ≠ 0) => show r = x from HE.out.trans (by rw [a_q HZ.out (by rw [e]; exact hx) hlt, e]; exact a_h hx)); have HN := a_2 (fun (e : d_O l k = 0) => a_T HZ.out e); have hkc : k ≤ cp := by omega
   have HX := a_2 (fun W (hb : Below wr.heap.size wr W) => bx3 (a_1 hx0 s_ hb)); have HX0 := a_2 (fun W (hb : Below wr.heap.size wr W) => a_1 hx0 s_ hb); clear hc HE; generalize l[k] = x at *
   by_cases hx : nmB x = true
   rotate_left
   ·rw [if_neg hx] at HT
    have hxf : nmB x = false := by simpa using hx
    rw [hxf] at HC; have HR := a_2 (HF.out 4 HT.out d_)
    go_wp2_with (go_at_call 32; refine (HC.out _).mono ?_; rintro e w1 ⟨rfl, hb1⟩)
    exact i_M
   rw [hx] at HC; rw [if_pos hx] at HT
   by_cases hin : x ∈ l.take k
   ·rw [if_pos hin] at HT
    refine p_r ?_; intro hinb; rw [hinb] at HH; have HR := a_2 (HF.out 6 HT.out d_); clear hin hinb hx c0 c1 c2; obtain ⟨c0, c1, c2, hlw⟩ := HX.out _ (b_ _ _)
    go_wp2_with (go_at_call 32; refine (HC.out _).mono ?_; rintro e w1 ⟨rfl, hb1⟩; clear c0 c1 c2 d0; obtain ⟨c0, c1, c2, hlw⟩ := HX.out _ hb1; have d0 := HC2.out _ hb1)
    go_region_with (go_at_call 34; refine (HH.out _ (by first | exact hb1 | exact a_4 hb1 1 | exact zX)).mono ?_; rintro e w' ⟨rfl, rfl⟩)
    all_goals (try go_wp2)
    all_goals
     exact q_u
   ·rw [if_neg hin] at HT
    refine p_g ?_; intro hinb; rw [hinb] at HH; have HR := a_2 (HN.out HT.out); clear hin hinb hx c0 c1 c2; obtain ⟨c0, c1, c2, hlw⟩ := HX.out _ (b_ _ _)
    go_wp2_with (go_at_call 32; refine (HC.out _).mono ?_; rintro e w1 ⟨rfl, hb1⟩; clear c0 c1 c2 d0; obtain ⟨c0, c1, c2, hlw⟩ := HX.out _ hb1; have d0 := HC2.out _ hb1)
    go_region_with (go_at_call 34; refine (HH.out _ (by first | exact hb1 | exact a_4 hb1 1 | exact zX)).mono ?_; rintro e w' ⟨rfl, rfl⟩)
    all_goals (try go_wp2)
    all_goals exact ⟨⟨k + 1, o_, t_, HR, by first | exact HX0.out _ hb1 | exact HX0.out _ (a_4 hb1 1)⟩, w_⟩
  ·obtain rfl : k = l.length := by omega
   have HE1 := a_2 (HE.out.trans (by rw [a_Y HZ.out, a_m])); clear HE HZ HA
   by_cases hv : a_u es = 0
   rotate_left
   ·have HR := a_2 (HE1.out.trans (a_h hv))
    have hvb : (a_u es != 0) = true := by simpa using hv
    clear HE1 hv HK H5; generalize a_u es = v at *
    go_wp2_with (go_at_call 182; refine (HV.out _ hbel).mono ?_; rintro e w1 ⟨rfl, hb1⟩)
    exact i_M
   have hes : es.length ≤ 256 := l_e hv; have HE2 := a_2 (HE1.out.trans (by rw [hv, a_m])); clear HE1; rw [hv] at HV; clear hv; have HC := a_2 (HK.out hes)
   have hus : (d_c es).length ≤ 256 := by
    have h9 := i_f es es.length; rw [List.take_length] at h9
    omega
   clear HK hes
   go_wp2_with (first
    | (go_at_call 182; refine (HV.out _ hbel).mono ?_; rintro e w1 ⟨rfl, hb1⟩; replace hx0 := a_1 hx0 s_ hb1; replace hbel := a_9 hb1 hbel; clear c0 c1 c2; obtain ⟨c0, c1, c2, hlw⟩ := bx3 hx0; clear HV)
    | (go_at_call 183; refine (HC.out _ hbel).mono ?_; rintro e w2 ⟨⟨D, d, rfl, hT⟩, hb2⟩; replace hx0 := a_1 hx0 s_ hb2; replace hbel := a_9 hb2 hbel; clear c0 c1 c2; obtain ⟨c0, c1, c2, hlw⟩ := bx3 hx0; clear HC))
   have HT := a_2 hT; clear hT; generalize d_c es = us at *
   go_loopw [6] (fun i wr => ∃ k : Nat, k ≤ us.length ∧ i = .int .i64 k ∧ Hid (∀ j (hj : j < us.length), j < k → c_N l us[j] = true) ∧ Below w2.heap.size w2 wr) (fun i _ => us.length - (intOf i).toNat)
   case atStart => exact ⟨0, o_, rfl, fun j _ hj => absurd hj (Nat.not_lt_zero _), b_ _ _⟩
   case round =>
    obtain ⟨k, hk, rfl, HZ, hb3⟩ := hrel; have hx3 := a_1 hx0 s_ hb3; have hbel3 := a_9 hb3 hbel; clear c0 c1 c2; obtain ⟨c0, c1, c2, hlw⟩ := bx3 hx3
    by_cases hlt : k < us.length
    ·rcases (k_0 HT.out).below hb3 with e | ⟨g, off, rfl, hg, hc⟩
     ·exact absurd hlt e_
     have d0 := hc k hlt; have HH := a_2 (fun W (hb : Below wr.heap.size wr W) => H5.out us[k] W (a_9 hb hbel3)); have HF := a_2 (fun (h : c_N l us[k] = false) => show r = 5 from HE2.out.trans (a_k (List.any_eq_true.2 ⟨us[k], List.getElem_mem _, by rw [h]; rfl⟩)))
     have HN := a_2 (fun (h : c_N l us[k] = true) (j : Nat) (hj : j < us.length) (hjk : j < k + 1) => show c_N l us[j] = true from by
      rcases Nat.lt_succ_iff_lt_or_eq.1 hjk with h9 | rfl
      ·exact HZ.out j hj h9
      ·exact h)
     clear hc HE2 H5 HZ; generalize us[k] = x at *
     by_cases hin : x ∈ l
     ·have hinb : decide (x ∈ l) = true := by simpa using hin
      rw [hinb] at HH; have HR := a_2 (HN.out (List.contains_iff_mem.2 hin)); clear HN HF hin hinb
      go_wp2_with fail
      go_region_with (go_at_call 34; refine (HH.out _ zX).mono ?_; rintro e w' ⟨rfl, rfl⟩)
      all_goals (try go_wp2)
      all_goals exact ⟨⟨k + 1, o_, t_, HR, by first | exact hb3 | exact a_4 hb3 1 | exact zX⟩, w_⟩
     ·have hinb : decide (x ∈ l) = false := by simpa using hin
      rw [hinb] at HH
      have HR := a_2 (HF.out (by
       cases h9 : c_N l x
       ·rfl
       ·exact absurd (List.contains_iff_mem.1 h9) hin))
      clear HN HF hin hinb
      go_wp2_with fail
      go_region_with (go_at_call 34; refine (HH.out _ zX).mono ?_; rintro e w' ⟨rfl, rfl⟩)
      all_goals (try go_wp2)
      all_goals
       go_ret
       exact ⟨a_d HR.out.symm, by first | exact hbel3 | exact a_4 hbel3 1 | exact zX⟩
    ·obtain rfl : k = us.length := by omega
     have HR := a_2 (show r = 0 from HE2.out.trans (a_G (by
      rw [List.any_eq_true]; rintro ⟨x, hx, h9⟩; obtain ⟨j, hj, rfl⟩ := List.getElem_of_mem hx; rw [HZ.out j hj hj] at h9
      cases h9)))
     go_wp2
     go_ret
     exact ⟨a_d HR.out.symm, hbel3⟩
set_option maxRecDepth 512
theorem r_b (x : a_3) : x = [] ∨ ((x == []) = false ∧ (x != []) = true ∧ x ≠ []) := by
 by_cases hx : x = []
 ·exact .inl hx
 ·exact .inr ⟨beq_eq_false_iff_ne.2 hx, by simpa using hx, hx⟩
set_option maxRecDepth 100000
theorem g_y (m : Mdl) (p q : Pl) (w : World) (hC : b_1 w p.1 m.self) (hQ : b_L w q.1 m.query) (ho : m.ok) :
  Calls prog 66 #[.agg #[str m.name, slV p m.self.length, slV q m.query.length, str m.part, str m.zone, .int .i64 m.strat, str m.owner, .int .i64 m.cost]] w fun e w' => e = .returned (.int .i64 (e_m m)) ∧ Below w.heap.size w w' := by
 have HE := a_2 (show e_m m = a_c (if m.self = [] then 0 else a_c (c_t m.self) (a_b (i_O m.self = true) 4)) (a_c (b_o m.query) (a_c (a_b (decide (m.self ≠ []) ≠ c_N (a_I m.query) b_P) 8)
  (a_c (a_b (decide (m.part = []) ≠ decide (m.zone = []) ∨ (m.self ≠ [] ∧ m.part = [])) 8) (a_c (if m.part = [] then 0 else a_F m.part) (a_c (if m.zone = [] then 0 else a_L m.zone)
   (a_c (a_b (m.strat < 0 ∨ 2 < m.strat) 1) (a_c (a_b (m.owner ≠ [] ∧ (a_i 24 m.owner = false ∨ m.owner = d_M)) 4) (a_b (m.cost < 1 ∨ 16 < m.cost) 1)))))))) from rfl)
 have hbox : Below (w.heap.size + 1) (w.alloc (.cells #[str m.name, slV p m.self.length, slV q m.query.length, str m.part, str m.zone, .int .i64 m.strat, str m.owner, .int .i64 m.cost] 62)) (w.alloc (.cells #[str m.name, slV p m.self.length, slV q m.query.length, str m.part, str m.zone, .int .i64 m.strat, str m.owner, .int .i64 m.cost] 62)) := b_ _ _
 have HB0 := a_2 (show Below w.heap.size w (w.alloc (.cells #[str m.name, slV p m.self.length, slV q m.query.length, str m.part, str m.zone, .int .i64 m.strat, str m.owner, .int .i64 m.cost] 62)) from zX)
 have H1 := a_2 (fun W (hb : Below w.heap.size w W) => d_P p.1 m.self p.2 W (hC.below hb) ho.self)
 have H2 := a_2 (fun W (hb : Below w.heap.size w W) => e_1 p.1 m.self p.2 W (hC.below hb) ho.self)
 have H3 := a_2 (fun W (hb : Below w.heap.size w W) => f_6 q.1 m.query q.2 W (hQ.below hb) ho.query ho.step)
 have H4 := a_2 (fun W (hb : Below w.heap.size w W) => g_o q.1 m.query q.2 W (hQ.below hb) ho.query)
 have hrl : (a_I m.query).length ≤ m.query.length := by have := e_2 (ss := m.query) _ (l_ _); rwa [List.take_length] at this
 have H5 := a_2 (fun (A : Option Addr) (c : Nat) V (h : b_b V A (a_I m.query)) => d_a A (a_I m.query) c b_P V h (by have := ho.query; omega))
 rw [← show c_N (a_I m.query) b_P = decide (b_P ∈ a_I m.query) from by
  show (a_I m.query).contains b_P = _
  cases hc : (a_I m.query).contains b_P
  ·symm; rw [decide_eq_false_iff_not]; intro hm; rw [← List.contains_iff_mem, hc] at hm; cases hm
  ·symm; rw [decide_eq_true_eq]; exact List.contains_iff_mem.1 hc] at H5
 have H6 := a_2 (fun W => d_7 m.part W)
 have H7 := a_2 (fun W => d_D m.zone W ho.zone)
 have H8 := a_2 (fun W => show Calls prog 89 #[str m.owner] W (fun e w' => e = .returned (.bool (a_i 24 m.owner)) ∧ W = w') from b_5 ⟨m.owner.toArray⟩ W)
 have hself : (m.self = [] ∧ m.self.length = 0) ∨ (m.self ≠ [] ∧ 0 < m.self.length) := by
  cases h : m.self
  ·exact .inl ⟨rfl, rfl⟩
  ·exact .inr ⟨s_, s_⟩
 clear hC hQ ho
 generalize e_m m = r at *
 generalize b_o m.query = v3 at *
 generalize c_N (a_I m.query) b_P = z5 at *
 generalize hX : (if m.self = [] then 0 else a_c (c_t m.self) (a_b (i_O m.self = true) 4)) = X at *
 have HX := a_2 hX
 clear hX
 generalize m.self.length = ls at *
 go_enter func66, ntmps66
 go_upto_if 8 with fail
 go_cut [] from 3 (fun wx => X = 0 ∧ Below (w.heap.size + 1) (w.alloc (.cells #[str m.name, slV p ls, slV q m.query.length, str m.part, str m.zone, .int .i64 m.strat, str m.owner, .int .i64 m.cost] 62)) wx)
 case first =>
  clear H3 H4 H5 H6 H7 H8
  rcases hself with ⟨hs, hl⟩ | ⟨hs, hl⟩
  ·have hX0 := HX.out
   rw [if_pos hs] at hX0; have HX0 := a_2 hX0.symm; clear hX0 hs; subst hl
   go_wp2_with fail
   all_goals first | (exfalso; omega) | skip
   go_meet
   exact ⟨HX0.out, hbox⟩
  ·have hX0 := HX.out
   rw [if_neg hs] at hX0; have HX0 := a_2 hX0.symm; clear hX0 hs; have hl0 : ((ls : Nat) : Int) > 0 := by omega
   generalize c_t m.self = v at *; generalize i_O m.self = z at *
   by_cases hv : v = 0
   rotate_left
   ·have hvb : (v != 0) = true := by simpa using hv
    have HR := a_2 (show r = v from HE.out.trans (by rw [HX0.out, a_h hv, a_h hv])); clear HE hv HX HX0
    go_wp2_with (go_at_call 125; refine (H1.out _ HB0.out).mono ?_; rintro e w' ⟨rfl, rfl⟩)
    all_goals first | (exfalso; omega) | skip
    exact k_4
   subst hv
   cases z
   ·have HX1 := a_2 (HX0.out.trans (by rw [a_m, a_G s_]))
    clear HE HX HX0
    go_wp2_with (first | (go_at_call 125; refine (H1.out _ HB0.out).mono ?_; rintro e w' ⟨rfl, rfl⟩) | (go_at_call 126; refine (H2.out _ HB0.out).mono ?_; rintro e w2 ⟨rfl, hb2⟩; have hx2 := a_1 hbox s_ hb2))
    all_goals first | (exfalso; omega) | skip
    go_meet
    exact ⟨HX1.out, hx2⟩
   ·have HR := a_2 (show r = 4 from HE.out.trans (by rw [HX0.out, a_m, a_k rfl]; exact a_h d_))
    clear HE HX HX0
    go_wp2_with (first | (go_at_call 125; refine (H1.out _ HB0.out).mono ?_; rintro e w' ⟨rfl, rfl⟩) | (go_at_call 126; refine (H2.out _ HB0.out).mono ?_; rintro e w2 ⟨rfl, hb2⟩; have hx2 := a_1 hbox s_ hb2))
    all_goals first | (exfalso; omega) | skip
    go_ret
    exact ⟨a_d HR.out.symm, a_9 hb2 HB0.out⟩
 case rest =>
  obtain ⟨hX0, hx0⟩ := hcut
  rw [hX0, a_m] at HE
  have hr0 := a_5 hx0
  clear H1 H2 HX hX0 hbox HB0
  obtain ⟨c0, c1, c2, c3, c4, c5, c6, c7, hlw⟩ := bx8 hx0
  by_cases e3 : v3 = 0
  rotate_left
  ·have HR := a_2 (HE.out.trans (a_h e3))
   have hvb : (v3 != 0) = true := by simpa using e3
   clear HE e3
   go_wp2_with (go_at_call 127; refine (H3.out _ hr0).mono ?_; rintro e w3 ⟨rfl, hb3⟩)
   go_ret
   exact ⟨a_d HR.out.symm, a_9 hb3 hr0⟩
  subst e3
  rw [a_m] at HE
  go_upto_region 10 with (go_at_call 127; refine (H3.out _ hr0).mono ?_; rintro e w3 ⟨rfl, hb3⟩)
  go_cut [24] from 18 (fun s24 wx => s24 = .bool (decide (m.self ≠ []) != z5) ∧ Below (w.heap.size + 1) (w.alloc (.cells #[str m.name, slV p ls, slV q m.query.length, str m.part, str m.zone, .int .i64 m.strat, str m.owner, .int .i64 m.cost] 62)) wx)
  case first =>
   clear HE H3 H6 H7 H8; generalize m.query.length = lq at *; have hx4 := a_1 hx0 s_ hb3; have hr3 := a_9 hb3 hr0; have kk : Below w3.heap.size w3 w3.drew := Below.drew (b_ _ _); have HS := a_2 (fun w' (hb : Below w3.heap.size w3 w') => show w'.cell? ⟨w.heap.size, 1, none⟩ = some (slV p ls) ∧ w'.cell? ⟨w.heap.size, 2, none⟩ = some (slV q lq) from ⟨(bx8 (a_1 hx4 s_ hb)).2.1, (bx8 (a_1 hx4 s_ hb)).2.2.1⟩); clear c0 c1 c2 c3 c4 c5 c6 c7; refine wp_region_held_drew (S := (fun w' => w'.cell? ⟨w.heap.size, 1, none⟩ = some (slV p ls) ∧ w'.cell? ⟨w.heap.size, 2, none⟩ = some (slV q lq))) k_ (by (try dsimp only); exact HS.out _ kk) (fun hHeld => ?_); generalize w3.drew = W0 at *; refine zT 0 ?_; refine zT 1 ?_; refine zT 2 ?_; refine zT 3 ?_; refine zT 4 ?_; refine zT 5 ?_; refine zR 6 (fun K hK => ?_)
   go_simp
   go_wp2_with (go_at_call 128; refine (H4.out _ (a_9 kk hr3)).mono ?_; rintro e v1 ⟨⟨B, d, rfl, hown⟩, hb1⟩; replace kk := a_9 hb1 kk; have hst := a_W hown; clear hown)
   refine zB hK (HS.out _ kk) (fun hHeld => ?_); clear hK K; refine zR 7 (fun K hK => ?_)
   go_simp
   go_wp2_with (go_at_call 34; refine (H5.out _ _ _ hst).mono ?_; rintro e w' ⟨rfl, rfl⟩)
   refine zB hK (HS.out _ kk) (fun hHeld => ?_); clear hK K; refine zT 8 ?_; refine zT 9 ?_; refine wpAnyH_done k_ ?_ _; simp only [List.getElem_toArray, List.getElem_cons_succ, List.getElem_cons_zero, List.setIfInBounds_toArray, List.set_cons_zero, List.set_cons_succ]
   go_wp2_with fail
   go_meet
   exact ⟨by rcases hself with ⟨hs, hl⟩ | ⟨hs, hl⟩ <;> simp [hs, hl], a_1 hx4 s_ kk⟩
  case rest =>
   obtain ⟨rfl, hx1⟩ := hcut; have hr1 := a_5 hx1; clear H3 H4 H5 hx0 hr0 hb3 c0 c1 c2 c3 c4 c5 c6 c7; obtain ⟨c0, c1, c2, c3, c4, c5, c6, c7, hlw⟩ := bx8 hx1; generalize hb : (decide (m.self ≠ []) != z5) = b at *
   cases b
   rotate_left
   ·have HR := a_2 (show r = 8 from HE.out.trans (by rw [a_k (by simpa using hb)]; exact a_h d_))
    clear HE hb
    go_wp2_with fail
    exact d_e
   have HE1 := a_2 (HE.out.trans (by rw [a_G (by simpa using hb), a_m])); clear HE hb; have hp := r_b m.part; have hz := r_b m.zone; have ho := r_b m.owner; generalize m.part = pt at *; generalize m.zone = zn at *; generalize m.owner = ow at *; generalize m.strat = st at *; generalize m.cost = co at *
   go_upto_region 12 with fail
   rcases hp with rfl | ⟨hp1, hp2, hp3⟩ <;> rcases hz with rfl | ⟨hz1, hz2, hz3⟩
   ·rcases hself with ⟨hs, rfl⟩ | ⟨hs, hl⟩
    ·have HE := a_2 (HE1.out.trans (by rw [a_G (by simp [hs]), a_m, if_pos rfl, a_m, if_pos rfl, a_m]))
     clear HE1 hs
     go_upto_region 16 with (first | (go_at_call 32; refine (H6.out _).mono ?_; rintro e wa ⟨rfl, hba⟩; replace hx1 := a_1 hx1 s_ hba; replace hr1 := a_9 hba hr1; clear c0 c1 c2 c3 c4 c5 c6 c7; obtain ⟨c0, c1, c2, c3, c4, c5, c6, c7, hlw⟩ := bx8 hx1) | (go_at_call 67; refine (H7.out _).mono ?_; rintro e wa ⟨rfl, hba⟩; replace hx1 := a_1 hx1 s_ hba; replace hr1 := a_9 hba hr1; clear c0 c1 c2 c3 c4 c5 c6 c7; obtain ⟨c0, c1, c2, c3, c4, c5, c6, c7, hlw⟩ := bx8 hx1))
     rcases (show st < 0 ∨ 2 < st ∨ (0 ≤ st ∧ st ≤ 2) by omega) with e1 | e1 | ⟨e1, e2⟩
     ·have HR := a_2 (show r = 1 from HE.out.trans (by rw [a_k o_]; exact a_h d_))
      clear HE
      go_wp2_with fail
      all_goals first | (exfalso; omega) | skip
      exact d_e
     ·have HR := a_2 (show r = 1 from HE.out.trans (by rw [a_k o_]; exact a_h d_))
      clear HE
      go_wp2_with fail
      all_goals first | (exfalso; omega) | skip
      exact d_e
     have HE1 := a_2 (HE.out.trans (by rw [a_G o_, a_m])); clear HE
     go_upto_region 18 with fail
     all_goals first | (exfalso; omega) | skip
     rcases ho with rfl | ⟨ho1, ho2, ho3⟩
     ·have HE := a_2 (HE1.out.trans (by rw [a_G s_, a_m]))
      clear HE1 H8
      go_upto_region 20 with fail
      rcases (show co < 1 ∨ 16 < co ∨ (1 ≤ co ∧ co ≤ 16) by omega) with e3 | e3 | ⟨e3, e4⟩
      ·have HR := a_2 (show r = 1 from HE.out.trans (a_k o_))
       clear HE
       go_wp2_with fail
       all_goals first | (exfalso; omega) | skip
       exact d_e
      ·have HR := a_2 (show r = 1 from HE.out.trans (a_k o_))
       clear HE
       go_wp2_with fail
       all_goals first | (exfalso; omega) | skip
       exact d_e
      ·have HR := a_2 (show r = 0 from HE.out.trans (a_G o_))
       clear HE
       go_wp2_with fail
       all_goals first | (exfalso; omega) | skip
       exact d_e
     generalize a_i 24 ow = zo at *
     cases zo
     ·have HR := a_2 (show r = 4 from HE1.out.trans (by rw [a_k (by simp [ho3])]; exact a_h d_))
      clear HE1 ho3
      go_wp2_with (go_at_call 89; refine (H8.out _).mono ?_; rintro e w' ⟨rfl, rfl⟩)
      exact d_e
     by_cases hc : ow = [99, 111, 115, 116]
     ·subst hc
      have HR := a_2 (show r = 4 from HE1.out.trans (by rw [a_k (by simp [d_M])]; exact a_h d_)); clear HE1 ho3
      go_wp2_with (go_at_call 89; refine (H8.out _).mono ?_; rintro e w' ⟨rfl, rfl⟩)
      exact d_e
     refine r_S ?_; intro HE hc2; clear HE1 ho3 hc
     go_upto_region 20 with (go_at_call 89; refine (H8.out _).mono ?_; rintro e w' ⟨rfl, rfl⟩)
     rcases (show co < 1 ∨ 16 < co ∨ (1 ≤ co ∧ co ≤ 16) by omega) with e3 | e3 | ⟨e3, e4⟩
     ·have HR := a_2 (show r = 1 from HE.out.trans (a_k o_))
      clear HE
      go_wp2_with fail
      all_goals first | (exfalso; omega) | skip
      exact d_e
     ·have HR := a_2 (show r = 1 from HE.out.trans (a_k o_))
      clear HE
      go_wp2_with fail
      all_goals first | (exfalso; omega) | skip
      exact d_e
     ·have HR := a_2 (show r = 0 from HE.out.trans (a_G o_))
      clear HE
      go_wp2_with fail
      all_goals first | (exfalso; omega) | skip
      exact d_e
    ·have HR := a_2 (show r = 8 from HE1.out.trans (by rw [a_k (by simp [hs])]; exact a_h d_))
     clear HE1 hs
     go_wp2_with fail
     all_goals first | (exfalso; omega) | skip
     exact d_e
   ·have HR := a_2 (show r = 8 from HE1.out.trans (by rw [a_k (by simp [hz3])]; exact a_h d_))
    clear HE1 hz3
    go_wp2_with fail
    exact d_e
   ·have HR := a_2 (show r = 8 from HE1.out.trans (by rw [a_k (by simp [hp3])]; exact a_h d_))
    clear HE1 hp3
    go_wp2_with fail
    exact d_e
   ·have HE2 := a_2 (HE1.out.trans (by rw [a_G (by simp [hp3, hz3]), a_m, if_neg hp3, if_neg hz3]))
    unfold a_F a_L at HE2; clear HE1 hp3 hz3; generalize nmB pt = za at *; generalize qlB zn = zb at *
    go_cut [34] from 35 (fun s34 wx => s34 = .bool false ∧ Below (w.heap.size + 1) (w.alloc (.cells #[str m.name, slV p ls, slV q m.query.length, str pt, str zn, .int .i64 st, str ow, .int .i64 co] 62)) wx)
    case first =>
     clear HE2 H6 H7 H8 ho
     go_wp2_with fail
     all_goals
      go_meet
      exact ⟨rfl, hx1⟩
    case rest =>
     obtain ⟨rfl, hx2⟩ := hcut; clear hx1 hr1 c0 c1 c2 c3 c4 c5 c6 c7; have hx1 := hx2; have hr1 := a_5 hx1; obtain ⟨c0, c1, c2, c3, c4, c5, c6, c7, hlw⟩ := bx8 hx1; clear hx2
     cases za
     ·have HR := a_2 (show r = 4 from HE2.out.trans (by rw [if_neg d_]; exact a_h d_))
      clear HE2
      go_wp2_with (go_at_call 32; refine (H6.out _).mono ?_; rintro e wa ⟨rfl, hba⟩; replace hx1 := a_1 hx1 s_ hba; replace hr1 := a_9 hba hr1; clear c0 c1 c2 c3 c4 c5 c6 c7; obtain ⟨c0, c1, c2, c3, c4, c5, c6, c7, hlw⟩ := bx8 hx1)
      exact d_e
     cases zb
     ·have HR := a_2 (show r = 4 from HE2.out.trans (by rw [if_pos rfl, a_m, if_neg d_]; exact a_h d_))
      clear HE2
      go_wp2_with (first | (go_at_call 32; refine (H6.out _).mono ?_; rintro e wa ⟨rfl, hba⟩; replace hx1 := a_1 hx1 s_ hba; replace hr1 := a_9 hba hr1; clear c0 c1 c2 c3 c4 c5 c6 c7; obtain ⟨c0, c1, c2, c3, c4, c5, c6, c7, hlw⟩ := bx8 hx1) | (go_at_call 67; refine (H7.out _).mono ?_; rintro e wa ⟨rfl, hba⟩; replace hx1 := a_1 hx1 s_ hba; replace hr1 := a_9 hba hr1; clear c0 c1 c2 c3 c4 c5 c6 c7; obtain ⟨c0, c1, c2, c3, c4, c5, c6, c7, hlw⟩ := bx8 hx1))
      exact d_e
     have HE := a_2 (HE2.out.trans (by rw [if_pos rfl, a_m, a_m])); clear HE2
     go_upto_region 16 with (first | (go_at_call 32; refine (H6.out _).mono ?_; rintro e wa ⟨rfl, hba⟩; replace hx1 := a_1 hx1 s_ hba; replace hr1 := a_9 hba hr1; clear c0 c1 c2 c3 c4 c5 c6 c7; obtain ⟨c0, c1, c2, c3, c4, c5, c6, c7, hlw⟩ := bx8 hx1) | (go_at_call 67; refine (H7.out _).mono ?_; rintro e wa ⟨rfl, hba⟩; replace hx1 := a_1 hx1 s_ hba; replace hr1 := a_9 hba hr1; clear c0 c1 c2 c3 c4 c5 c6 c7; obtain ⟨c0, c1, c2, c3, c4, c5, c6, c7, hlw⟩ := bx8 hx1))
     rcases (show st < 0 ∨ 2 < st ∨ (0 ≤ st ∧ st ≤ 2) by omega) with e1 | e1 | ⟨e1, e2⟩
     ·have HR := a_2 (show r = 1 from HE.out.trans (by rw [a_k o_]; exact a_h d_))
      clear HE
      go_wp2_with fail
      all_goals first | (exfalso; omega) | skip
      exact d_e
     ·have HR := a_2 (show r = 1 from HE.out.trans (by rw [a_k o_]; exact a_h d_))
      clear HE
      go_wp2_with fail
      all_goals first | (exfalso; omega) | skip
      exact d_e
     have HE1 := a_2 (HE.out.trans (by rw [a_G o_, a_m])); clear HE
     go_upto_region 18 with fail
     all_goals first | (exfalso; omega) | skip
     rcases ho with rfl | ⟨ho1, ho2, ho3⟩
     ·have HE := a_2 (HE1.out.trans (by rw [a_G s_, a_m]))
      clear HE1 H8
      go_upto_region 20 with fail
      rcases (show co < 1 ∨ 16 < co ∨ (1 ≤ co ∧ co ≤ 16) by omega) with e3 | e3 | ⟨e3, e4⟩
      ·have HR := a_2 (show r = 1 from HE.out.trans (a_k o_))
       clear HE
       go_wp2_with fail
       all_goals first | (exfalso; omega) | skip
       exact d_e
      ·have HR := a_2 (show r = 1 from HE.out.trans (a_k o_))
       clear HE
       go_wp2_with fail
       all_goals first | (exfalso; omega) | skip
       exact d_e
      ·have HR := a_2 (show r = 0 from HE.out.trans (a_G o_))
       clear HE
       go_wp2_with fail
       all_goals first | (exfalso; omega) | skip
       exact d_e
     generalize a_i 24 ow = zo at *
     cases zo
     ·have HR := a_2 (show r = 4 from HE1.out.trans (by rw [a_k (by simp [ho3])]; exact a_h d_))
      clear HE1 ho3
      go_wp2_with (go_at_call 89; refine (H8.out _).mono ?_; rintro e w' ⟨rfl, rfl⟩)
      exact d_e
     by_cases hc : ow = [99, 111, 115, 116]
     ·subst hc
      have HR := a_2 (show r = 4 from HE1.out.trans (by rw [a_k (by simp [d_M])]; exact a_h d_)); clear HE1 ho3
      go_wp2_with (go_at_call 89; refine (H8.out _).mono ?_; rintro e w' ⟨rfl, rfl⟩)
      exact d_e
     refine r_S ?_; intro HE hc2; clear HE1 ho3 hc
     go_upto_region 20 with (go_at_call 89; refine (H8.out _).mono ?_; rintro e w' ⟨rfl, rfl⟩)
     rcases (show co < 1 ∨ 16 < co ∨ (1 ≤ co ∧ co ≤ 16) by omega) with e3 | e3 | ⟨e3, e4⟩
     ·have HR := a_2 (show r = 1 from HE.out.trans (a_k o_))
      clear HE
      go_wp2_with fail
      all_goals first | (exfalso; omega) | skip
      exact d_e
     ·have HR := a_2 (show r = 1 from HE.out.trans (a_k o_))
      clear HE
      go_wp2_with fail
      all_goals first | (exfalso; omega) | skip
      exact d_e
     ·have HR := a_2 (show r = 0 from HE.out.trans (a_G o_))
      clear HE
      go_wp2_with fail
      all_goals first | (exfalso; omega) | skip
      exact d_e
end Go.Proofs.YtnpjibaolicbmaaGreatDoor
