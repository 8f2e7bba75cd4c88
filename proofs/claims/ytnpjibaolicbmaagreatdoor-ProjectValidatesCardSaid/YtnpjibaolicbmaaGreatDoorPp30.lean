/- Parts of the proof. -/
import Derived.Test.YtnpjibaolicbmaaGreatDoorPp28
import Derived.Test.YtnpjibaolicbmaaGreatDoorPp29
import Derived.Test.YtnpjibaolicbmaaGreatDoorPp24
import Derived.Test.YtnpjibaolicbmaaGreatDoorPp22
set_option linter.unusedVariables false
set_option linter.unusedSimpArgs false
set_option maxHeartbeats 4000000
namespace Go.Proofs.YtnpjibaolicbmaaGreatDoor
open Go.Proofs.Tryz
open Go.RowKit
set_option maxRecDepth 100000
theorem d_L (s : Stp) (a : Adr) (w : World) (hW : a_v w 1 a_w) (hU : c_7 w) (hA : s.At w a) (ho : s.ok) :
  Calls prog 160 #[s.agg a] w fun e w' => e = .returned (.int .i64 (c_M s)) ∧ Below w.heap.size w w' := by
 by_cases hs : s.op < 0 ∨ 12 < s.op ∨ b_z s.op s.src s.names.length s.others.length s.items.length s.cond.length = true
 ·have HX := a_2 (show c_M s = 8 from by unfold c_M; rw [if_pos hs])
  have HSh := a_2 (show ∀ W, Below w.heap.size w W → Calls prog 207 #[.agg #[.int .i64 s.op, str s.src, .slice a.nA s.names.length a.nC, .slice a.oA s.others.length a.oC, .slice a.iA s.items.length a.iC, .slice a.cA s.cond.length a.cC]] W (fun e w' => e = .returned (.bool false) ∧ Below W.heap.size W w') from fun W hb => by
   refine j_l ?_; intro h
   have e : (decide (0 ≤ s.op ∧ s.op ≤ 12) && !b_z s.op s.src s.names.length s.others.length s.items.length s.cond.length) = false := by
    rcases hs with h | h | h
    ·simp; omega
    ·simp; omega
    ·simp [h]
   rw [e] at h
   exact h)
  show Calls prog 160 #[.agg #[.int .i64 s.op, str s.src, .slice a.nA s.names.length a.nC, .slice a.oA s.others.length a.oC, .slice a.iA s.items.length a.iC, .slice a.cA s.cond.length a.cC]] w _
  generalize c_M s = r at *
  clear hU hA ho hs hW
  go_enter func160, ntmps160
  go_wp2_with (go_at_call 207; refine (HSh.out _ zX).mono ?_; rintro e w1 ⟨rfl, hb1⟩)
  go_ret
  exact ⟨a_d HX.out.symm, a_9 hb1 zX⟩
 ·have e : c_M s = opS s := by unfold c_M; rw [if_neg hs]
  have hu : b_z s.op s.src s.names.length s.others.length s.items.length s.cond.length = false := by
   cases h : b_z s.op s.src s.names.length s.others.length s.items.length s.cond.length
   ·rfl
   ·exact absurd (.inr (.inr h)) hs
  have hv : f_3 s := by
   have hop : s.op = 0 ∨ s.op = 1 ∨ s.op = 2 ∨ s.op = 3 ∨ s.op = 4 ∨ s.op = 5 ∨ s.op = 6 ∨ s.op = 7 ∨ s.op = 8 ∨ s.op = 9 ∨ s.op = 10 ∨ s.op = 11 ∨ s.op = 12 := by omega
   rcases hop with h | h | h | h | h | h | h | h | h | h | h | h | h
   ·exact q_M s h
   ·exact r_c s h
   ·exact r_w s h
   ·exact r_6 s h
   ·exact r_j s h
   ·exact r_m s h
   ·exact r_r s h
   ·exact r_8 s h
   ·exact r_k s h
   ·exact q_p s h
   ·exact p_p s h
   ·exact p_t s h
   ·exact p_b s h
  rw [e]
  exact hv a w hW hU hA ho hu
theorem f_a (A : Option Addr) (ss : List Stp) (c : Nat) (w : World) (hW : a_v w 1 a_w) (hU : c_7 w) (h : b_L w A ss) (hl : ss.length ≤ 8796093022208) (hk : m_e ss) :
  Calls prog 103 #[.slice A ss.length c] w fun e w' => e = .returned (.int .i64 (b_o ss)) ∧ Below w.heap.size w w' := by
 have HA := a_2 h
 have HK := a_2 hk
 have HW := a_2 hW
 have HU := a_2 hU
 clear h hk hW hU
 by_cases h1 : ss.length < 1
 ·have HE := a_2 (show b_o ss = 2 from by unfold b_o; rw [if_pos (.inl h1)])
  go_enter func103, ntmps103
  go_wp2
  all_goals first | (exfalso; omega) | skip
  exact j_X
 by_cases h2 : 16 < ss.length
 ·have HE := a_2 (show b_o ss = 2 from by unfold b_o; rw [if_pos (.inr h2)])
  go_enter func103, ntmps103
  go_wp2
  all_goals first | (exfalso; omega) | skip
  exact j_X
 have HE := a_2 (i_k (ss := ss) o_)
 generalize b_o ss = r at *
 go_enter func103, ntmps103
 go_wp2
 all_goals first | (exfalso; omega) | skip
 go_loopw [16] (fun i wr => ∃ k : Nat, k ≤ ss.length ∧ i = .int .i64 k ∧ Hid (∀ j, j < k → g_i ss j = 0) ∧ Below w.heap.size w wr) (fun i _ => ss.length - (intOf i).toNat)
 case atStart => exact ⟨0, o_, rfl, fun j hj => absurd hj (Nat.not_lt_zero _), b_ _ _⟩
 case round =>
  obtain ⟨k, hk, rfl, HZ, hbel⟩ := hrel
  by_cases hlt : k < ss.length
  ·rcases HA.out.below hbel with e | ⟨g, off, rfl, hg, hc⟩
   ·exact absurd hlt e_
   obtain ⟨a, ha, c0, c1, c2, c3, c4, c5⟩ := hc k hlt; have HV := a_2 (fun W (hb : Below wr.heap.size wr W) => d_L ss[k] a W ((HW.out.below hbel).below hb) ((HU.out.below hbel).below hb) (ha.below hb) (HK.out _ (List.getElem_mem hlt))); refine s_p ?_; intro HT HF HN; clear hc ha; generalize c_M ss[k] = v at *; obtain ⟨x, hx⟩ : ∃ x, x = ss[k] := ⟨_, rfl⟩; rw [← hx] at c0 c1 c2 c3 c4 c5 HV HT; clear hx
   by_cases hv : v = 0
   rotate_left
   ·have hvb : (v != 0) = true := by simpa using hv
    have HR := a_2 (HF.out v (by rw [HT.out, if_neg hv]) hv); clear HT HF HN hv
    go_wp2_with (go_at_call 160; refine (HV.out _ zX).mono ?_; rintro e w1 ⟨rfl, hb1⟩)
    exact p_q
   subst hv; refine o_p ?_; intro HT2
   by_cases ho : x.op = 0
   ·have hp : (x.op == 0) = true := by simpa using ho
    by_cases hk0 : k = 0
    ·have hq : ((k : Int) == 0) = true := by simpa using hk0
     refine q_n ?_; intro HR; clear HT HF HN HT2 ho hk0
     go_wp2_with (go_at_call 160; refine (HV.out _ zX).mono ?_; rintro e w1 ⟨rfl, hb1⟩; obtain ⟨d0, _⟩ := a_R (a_1 (b_ (wr.heap.size + 1) (wr.alloc _)) s_ hb1))
     exact ⟨⟨k + 1, o_, t_, HR, a_9 (a_9 hb1 zX) hbel⟩, w_⟩
    ·have hq : ((k : Int) == 0) = false := beq_eq_false_iff_ne.2 o_
     refine p_P ?_; intro HR; clear HT HF HN HT2 ho hk0
     go_wp2_with (go_at_call 160; refine (HV.out _ zX).mono ?_; rintro e w1 ⟨rfl, hb1⟩; obtain ⟨d0, _⟩ := a_R (a_1 (b_ (wr.heap.size + 1) (wr.alloc _)) s_ hb1))
     exact p_q
   ·have hp : (x.op == 0) = false := beq_eq_false_iff_ne.2 ho
    by_cases hk0 : k = 0
    ·have hq : ((k : Int) == 0) = true := by simpa using hk0
     refine p_P ?_; intro HR; clear HT HF HN HT2 ho hk0
     go_wp2_with (go_at_call 160; refine (HV.out _ zX).mono ?_; rintro e w1 ⟨rfl, hb1⟩; obtain ⟨d0, _⟩ := a_R (a_1 (b_ (wr.heap.size + 1) (wr.alloc _)) s_ hb1))
     exact p_q
    ·have hq : ((k : Int) == 0) = false := beq_eq_false_iff_ne.2 o_
     refine q_n ?_; intro HR; clear HT HF HN HT2 ho hk0
     go_wp2_with (go_at_call 160; refine (HV.out _ zX).mono ?_; rintro e w1 ⟨rfl, hb1⟩; obtain ⟨d0, _⟩ := a_R (a_1 (b_ (wr.heap.size + 1) (wr.alloc _)) s_ hb1))
     exact ⟨⟨k + 1, o_, t_, HR, a_9 (a_9 hb1 zX) hbel⟩, w_⟩
  ·obtain rfl : k = ss.length := by omega
   refine i_2 ?_; intro HR
   go_wp2
   exact i_N
set_option maxRecDepth 512
theorem m_h (y : Col) (w : World) (hW : a_v w 1 a_w) : Calls prog 153 #[.agg #[str y.name, .int .i64 y.kind, .bool y.null]] w fun e w' => e = .returned (.bool (c_T y.name)) ∧ Below w.heap.size w w' := by
 have HR := a_2 (fun W (hb : Below w.heap.size w W) => show Calls prog 82 #[str y.name] W (fun e w' => e = .returned (.bool (c_T y.name)) ∧ W = w') from c_s ⟨y.name.toArray⟩ W (hW.below hb))
 clear hW
 obtain ⟨yn, yk, yl⟩ := y
 simp only at HR
 show Calls prog 153 #[.agg #[str yn, .int .i64 yk, .bool yl]] w _
 generalize c_T yn = q at *
 go_enter func153, ntmps153
 go_wp2_with (go_at_call 82; refine (HR.out _ zX).mono ?_; rintro e w' ⟨rfl, rfl⟩)
 exact k_t
def o_v (cs : List Col) (i : Nat) : Bool := match cs[i]? with
 | some y => c_T y.name
 | none => false
theorem m_g (cs : List Col) : f_8 (o_v cs) cs.length = i_O cs := by
 rw [Bool.eq_iff_iff]
 unfold f_8 i_O
 rw [List.any_eq_true, List.any_eq_true]
 constructor
 ·rintro ⟨i, hi, h⟩
  have hi' := List.mem_range.1 hi
  unfold o_v at h
  rw [List.getElem?_eq_getElem hi'] at h
  exact ⟨cs[i], List.getElem_mem hi', h⟩
 ·rintro ⟨y, hy, h⟩
  obtain ⟨i, hi, rfl⟩ := List.mem_iff_getElem.1 hy
  exact ⟨i, List.mem_range.2 hi, by unfold o_v; rw [List.getElem?_eq_getElem hi]; exact h⟩
set_option maxRecDepth 100000
theorem c_Q (A : Option Addr) (cs : List Col) (c : Nat) (w : World) (hW : a_v w 1 a_w) (h : b_1 w A cs) (hl : cs.length ≤ 8796093022208) :
  Calls prog 93 #[.slice A cs.length c] w fun e w' => e = .returned (.int .i64 (e_K cs)) ∧ Below w.heap.size w w' := by
 have HV := a_2 (e_D A cs c w h hl)
 have HC := a_2 (fun W (hb : Below w.heap.size w W) => j_1 A c cs.length 153 #[] (o_O cs) (o_v cs) W hl (fun V hV => l_O ((h.below hb).below hV)) (fun args V => by kernel_rfl) (fun i hi V hV => by
   rw [j_5 hi, show o_v cs i = c_T cs[i].name from by unfold o_v; rw [List.getElem?_eq_getElem hi]]
   exact m_h cs[i] V ((hW.below hb).below hV)))
 rw [m_g] at HC
 have HE := a_2 (show e_K cs = a_c (c_t cs) (if i_O cs = true then 4 else 0) from by unfold e_K a_b; rfl)
 clear hW h
 generalize e_K cs = r at *
 generalize c_t cs = v at *
 generalize i_O cs = z at *
 by_cases hv : v = 0
 ·subst hv
  have HR := a_2 (HE.out.trans a_m)
  cases z
  all_goals
   go_enter func93, ntmps93
   go_wp2_with (first
    | (go_at_call 151; refine (HV.out).mono ?_; rintro e w1 ⟨rfl, hb1⟩)
    | (go_at_call 152; refine (HC.out _ hb1).mono ?_; rintro e w2 ⟨rfl, hb2⟩)
    | (go_at_call 24; refine (a_8 _ _ _).mono ?_; rintro e w' ⟨rfl, rfl⟩))
   go_ret
   exact ⟨a_d HR.out.symm, a_9 hb2 hb1⟩
 ·have hvb : (v != 0) = true := by simpa using hv
  have HR := a_2 (HE.out.trans (a_h hv))
  go_enter func93, ntmps93
  go_wp2_with (go_at_call 151; refine (HV.out).mono ?_; rintro e w1 ⟨rfl, hb1⟩)
  exact q_h
abbrev d_F (w : World) (b : Nat) (m : Mdl) (p q : Pl) : Prop := w.heap[b]? = some (.cells #[str m.name, slV p m.self.length, slV q m.query.length, str m.part, str m.zone, .int .i64 m.strat, str m.owner, .int .i64 m.cost] 62)
set_option maxRecDepth 512
theorem t_d (b : Nat) (m : Mdl) (p q : Pl) (w : World) (hB : d_F w b m p q) (hW : a_v w 1 a_w) (hU : c_7 w) (hQ : b_L w q.1 m.query) (hl : m.query.length ≤ 8796093022208) (hk : m_e m.query) : b_8 w 102 #[a_f b] (b_o m.query) := by
 refine ⟨fun args W => by kernel_rfl, fun W hW2 => ?_⟩
 refine e_T ?_; intro hh
 have c2 : W.cell? ⟨b, 2, none⟩ = some (slV q m.query.length) := a_0 hh 2
 have HV := a_2 (f_a q.1 m.query q.2 W (hW.below hW2) (hU.below hW2) (hQ.below hW2) hl hk)
 clear hW hU hQ hk hW2 hh hB
 generalize b_o m.query = v at *
 generalize m.query.length = l at *
 go_enter func102, ntmps102
 go_wp2_with (go_at_call 103; refine (HV.out).mono ?_; rintro e w1 ⟨rfl, hb1⟩)
 exact d_s
theorem s_J (b : Nat) (m : Mdl) (p q : Pl) (sb : Nat) (sf : Bool) (w : World) (hB : d_F w b m p q) (hU : c_7 w) (hQ : b_L w q.1 m.query) (hl : m.query.length ≤ 8796093022208) (hs : w.heap[sb]? = some (.cells #[.bool sf] 4)) : b_8 w 104 #[a_f sb, a_f b] (a_b (sf ≠ c_N (a_I m.query) b_P) 8) := by
 refine ⟨fun args W => by kernel_rfl, fun W hW2 => ?_⟩
 refine e_T ?_; intro hh
 have c2 : W.cell? ⟨b, 2, none⟩ = some (slV q m.query.length) := a_0 hh 2
 have hs2 := (hW2.block _ (a_6 hs)).trans hs
 have s0 : W.cell? ⟨sb, 0, none⟩ = some (.bool sf) := a_0 hs2 0
 have HS := a_2 (fun w' (hb : Below W.heap.size W w') => show w'.cell? ⟨sb, 0, none⟩ = some (.bool sf) ∧ w'.cell? ⟨b, 2, none⟩ = some (slV q m.query.length) from ⟨(hb.cell (p := ⟨sb, 0, none⟩) (a_6 hs2)).trans s0, (hb.cell (p := ⟨b, 2, none⟩) (a_6 hh)).trans c2⟩)
 have HV := a_2 (fun V (hb : Below W.heap.size W V) => g_A q.1 m.query q.2 V ((hU.below hW2).below hb) ((hQ.below hW2).below hb) hl)
 have HE := a_2 (show a_b (sf ≠ c_N (a_I m.query) b_P) 8 = if (sf != c_N (a_I m.query) b_P) = true then 8 else 0 from by
  unfold a_b
  cases sf <;> cases c_N (a_I m.query) b_P <;> rfl)
 have hrl : (a_I m.query).length ≤ m.query.length := by have := e_2 (ss := m.query) _ (l_ _); rwa [List.take_length] at this
 clear hU hQ hW2 hh hB hs hs2
 have HC := a_2 (fun (A : Option Addr) (c : Nat) V (h : b_b V A (a_I m.query)) => b_k A (a_I m.query) c b_P V h o_)
 rw [← show c_N (a_I m.query) b_P = decide (b_P ∈ a_I m.query) from by
  show (a_I m.query).contains b_P = _
  cases hc : (a_I m.query).contains b_P
  ·symm; rw [decide_eq_false_iff_not]; intro hm; rw [← List.contains_iff_mem, hc] at hm; cases hm
  ·symm; rw [decide_eq_true_eq]; exact List.contains_iff_mem.1 hc] at HC
 generalize a_b (sf ≠ c_N (a_I m.query) b_P) 8 = v at *
 generalize c_N (a_I m.query) b_P = z at *
 generalize m.query.length = l at *
 cases sf <;> cases z
 all_goals
  go_enter func104, ntmps104
  go_wp2
  have kk : Below W.heap.size W W.drew := Below.drew (b_ _ _)
  refine wp_region_held_drew (S := (fun w' => w'.cell? ⟨sb, 0, none⟩ = some (.bool _) ∧ w'.cell? ⟨b, 2, none⟩ = some (slV q l))) k_ (by (try dsimp only); exact HS.out _ kk) (fun hHeld => ?_)
  generalize W.drew = W0 at *
  refine zT 0 ?_; refine zT 1 ?_; refine zT 2 ?_
  refine zR 3 (fun K hK => ?_)
  go_simp
  go_wp2_with (go_at_call 105; refine (HV.out _ kk).mono ?_; rintro e v1 ⟨⟨B, d, rfl, hown⟩, hb1⟩; replace kk := a_9 hb1 kk; have hst := a_W hown; clear hown)
  refine zB hK (HS.out _ kk) (fun hHeld => ?_)
  clear hK K
  refine zR 4 (fun K hK => ?_)
  go_simp
  go_wp2_with (go_at_call 85; refine (HC.out _ _ _ hst).mono ?_; rintro e w' ⟨rfl, rfl⟩)
  refine zB hK (HS.out _ kk) (fun hHeld => ?_)
  clear hK K
  refine zT 5 ?_
  refine zR 6 (fun K hK => ?_)
  go_simp
  go_wp2_with (go_at_call 24; refine (a_8 _ _ _).mono ?_; rintro e w' ⟨rfl, rfl⟩)
  refine zB hK (HS.out _ kk) (fun hHeld => ?_)
  clear hK K
  refine zT 7 ?_
  refine wpAnyH_done k_ ?_ _
  simp only [List.getElem_toArray, List.getElem_cons_succ, List.getElem_cons_zero, List.set_cons_zero, List.set_cons_succ]
  go_wp2
  go_ret
  exact ⟨a_d HE.out.symm, kk⟩
theorem s_R (b : Nat) (m : Mdl) (p q : Pl) (sb : Nat) (sf : Bool) (w : World) (hB : d_F w b m p q) (hs : w.heap[sb]? = some (.cells #[.bool sf] 4)) : b_8 w 106 #[a_f b, a_f sb] (a_b (decide (m.part = []) ≠ decide (m.zone = []) ∨ (sf = true ∧ m.part = [])) 8) := by
 refine ⟨fun args W => by kernel_rfl, fun W hW2 => ?_⟩
 refine e_T ?_; intro hh
 have c3 : W.cell? ⟨b, 3, none⟩ = some (str m.part) := a_0 hh 3
 have c4 : W.cell? ⟨b, 4, none⟩ = some (str m.zone) := a_0 hh 4
 have hs2 := (hW2.block _ (a_6 hs)).trans hs
 have s0 : W.cell? ⟨sb, 0, none⟩ = some (.bool sf) := a_0 hs2 0
 clear hW2 hh hB hs hs2
 generalize m.part = x at *
 generalize m.zone = y at *
 have hx : x = [] ∨ (x ≠ [] ∧ (x == []) = false) := by
  by_cases hx : x = []
  ·exact .inl hx
  ·exact .inr ⟨hx, beq_eq_false_iff_ne.2 hx⟩
 have hy : y = [] ∨ (y ≠ [] ∧ (y == []) = false) := by
  by_cases hy : y = []
  ·exact .inl hy
  ·exact .inr ⟨hy, beq_eq_false_iff_ne.2 hy⟩
 rcases hx with rfl | ⟨hx, hx2⟩ <;> rcases hy with rfl | ⟨hy, hy2⟩ <;> cases sf
 all_goals
  go_enter func106, ntmps106
  go_wp2_with (go_at_call 24; refine (a_8 _ _ _).mono ?_; rintro e w' ⟨rfl, rfl⟩)
  go_ret
  exact ⟨a_d (by unfold a_b; simp_all), b_ _ _⟩
theorem t_4 (b : Nat) (m : Mdl) (p q : Pl) (w : World) (hB : d_F w b m p q) (hW : a_v w 1 a_w) : b_8 w 107 #[a_f b] (if m.part = [] then 0 else a_F m.part) := by
 refine ⟨fun args W => by kernel_rfl, fun W hW2 => ?_⟩
 refine e_T ?_; intro hh
 have c3 : W.cell? ⟨b, 3, none⟩ = some (str m.part) := a_0 hh 3
 have HV := a_2 (c_x m.part 22 (a_F m.part) W (fun args V => by kernel_rfl) (b_v m.part W (hW.below hW2)))
 clear hW hW2 hh hB
 generalize (if m.part = [] then 0 else a_F m.part) = v at *
 generalize m.part = x at *
 go_enter func107, ntmps107
 go_wp2_with (go_at_call 108; refine (HV.out).mono ?_; rintro e w1 ⟨rfl, hb1⟩)
 exact d_s
theorem t_i (b : Nat) (m : Mdl) (p q : Pl) (w : World) (hB : d_F w b m p q) (hW : a_v w 1 a_w) (hz : m.zone.length ≤ maxLen) : b_8 w 109 #[a_f b] (if m.zone = [] then 0 else a_L m.zone) := by
 refine ⟨fun args W => by kernel_rfl, fun W hW2 => ?_⟩
 refine e_T ?_; intro hh
 have c4 : W.cell? ⟨b, 4, none⟩ = some (str m.zone) := a_0 hh 4
 have HV := a_2 (c_x m.zone 59 (a_L m.zone) W (fun args V => by kernel_rfl) (a_O m.zone W (hW.below hW2) hz))
 clear hW hW2 hh hB hz
 generalize (if m.zone = [] then 0 else a_L m.zone) = v at *
 generalize m.zone = x at *
 go_enter func109, ntmps109
 go_wp2_with (go_at_call 108; refine (HV.out).mono ?_; rintro e w1 ⟨rfl, hb1⟩)
 exact d_s
theorem s_F (b : Nat) (m : Mdl) (p q : Pl) (w : World) (hB : d_F w b m p q) : b_8 w 110 #[a_f b] (a_b (m.strat < 0 ∨ 2 < m.strat) 1) := by
 refine ⟨fun args W => by kernel_rfl, fun W hW2 => ?_⟩
 refine e_T ?_; intro hh
 have c5 : W.cell? ⟨b, 5, none⟩ = some (.int .i64 m.strat) := a_0 hh 5
 clear hW2 hh hB
 generalize m.strat = x at *
 by_cases h1 : x < 0
 ·have HR := a_2 (show a_b (x < 0 ∨ 2 < x) 1 = 1 from a_k (.inl h1))
  go_enter func110, ntmps110
  go_wp2_with (go_at_call 24; refine (a_8 _ _ _).mono ?_; rintro e w' ⟨rfl, rfl⟩)
  all_goals first | (exfalso; omega) | skip
  exact f_c
 by_cases h2 : 2 < x
 ·have HR := a_2 (show a_b (x < 0 ∨ 2 < x) 1 = 1 from a_k (.inr h2))
  go_enter func110, ntmps110
  go_wp2_with (go_at_call 24; refine (a_8 _ _ _).mono ?_; rintro e w' ⟨rfl, rfl⟩)
  all_goals first | (exfalso; omega) | skip
  exact f_c
 ·have HR := a_2 (show a_b (x < 0 ∨ 2 < x) 1 = 0 from a_G o_)
  go_enter func110, ntmps110
  go_wp2_with (go_at_call 24; refine (a_8 _ _ _).mono ?_; rintro e w' ⟨rfl, rfl⟩)
  all_goals first | (exfalso; omega) | skip
  exact f_c
theorem t_2 (b : Nat) (m : Mdl) (p q : Pl) (w : World) (hB : d_F w b m p q) : b_8 w 111 #[a_f b] (a_b (m.owner ≠ [] ∧ (a_i 24 m.owner = false ∨ m.owner = d_M)) 4) := by
 refine ⟨fun args W => by kernel_rfl, fun W hW2 => ?_⟩
 refine e_T ?_; intro hh
 have c6 : W.cell? ⟨b, 6, none⟩ = some (str m.owner) := a_0 hh 6
 have HN := a_2 (fun V => show Calls prog 81 #[str m.owner] V (fun e w' => e = .returned (.bool (a_i 24 m.owner)) ∧ Below V.heap.size V w') from a_Z ⟨m.owner.toArray⟩ V)
 have HB := a_2 (fun w' (hb : Below W.heap.size W w') => show w'.cell? ⟨b, 6, none⟩ = some (str m.owner) from (hb.cell (p := ⟨b, 6, none⟩) (a_6 hh)).trans c6)
 have HE := a_2 (show a_b (m.owner ≠ [] ∧ (a_i 24 m.owner = false ∨ m.owner = d_M)) 4 = if (!(m.owner == []) && (!a_i 24 m.owner || (m.owner == d_M))) = true then 4 else 0 from by
  unfold a_b
  simp)
 clear hW2 hh hB
 generalize a_b (m.owner ≠ [] ∧ (a_i 24 m.owner = false ∨ m.owner = d_M)) 4 = v at *
 generalize m.owner = x at *
 unfold d_M at HE
 generalize hz : a_i 24 x = z at *
 clear hz
 have hx : x = [] ∨ (x == []) = false := by
  by_cases hx : x = []
  ·exact .inl hx
  ·exact .inr (beq_eq_false_iff_ne.2 hx)
 have hy : x = [99, 111, 115, 116] ∨ (x == [99, 111, 115, 116]) = false := by
  by_cases hx : x = [99, 111, 115, 116]
  ·exact .inl hx
  ·exact .inr (beq_eq_false_iff_ne.2 hx)
 rcases hx with rfl | hx
 ·clear hy
  go_enter func111, ntmps111
  go_wp2_with (go_at_call 24; refine (a_8 _ _ _).mono ?_; rintro e w' ⟨rfl, rfl⟩)
  go_ret
  exact ⟨a_d (by rw [HE.out]; rfl), b_ _ _⟩
 rw [hx] at HE
 rcases hy with rfl | hy <;> cases z
 all_goals
  go_enter func111, ntmps111
  go_wp2_with (first
   | (go_at_call 81; refine (HN.out _).mono ?_; rintro e w1 ⟨rfl, hb1⟩; have c7 := HB.out _ hb1)
   | (go_at_call 24; refine (a_8 _ _ _).mono ?_; rintro e w' ⟨rfl, rfl⟩))
  go_ret
  exact ⟨a_d (by rw [HE.out]; simp_all), hb1⟩
theorem s_G (b : Nat) (m : Mdl) (p q : Pl) (w : World) (hB : d_F w b m p q) : b_8 w 112 #[a_f b] (a_b (m.cost < 1 ∨ 16 < m.cost) 1) := by
 refine ⟨fun args W => by kernel_rfl, fun W hW2 => ?_⟩
 refine e_T ?_; intro hh
 have c7 : W.cell? ⟨b, 7, none⟩ = some (.int .i64 m.cost) := a_0 hh 7
 clear hW2 hh hB
 generalize m.cost = x at *
 by_cases h1 : x < 1
 ·have HR := a_2 (show a_b (x < 1 ∨ 16 < x) 1 = 1 from a_k (.inl h1))
  go_enter func112, ntmps112
  go_wp2_with (go_at_call 24; refine (a_8 _ _ _).mono ?_; rintro e w' ⟨rfl, rfl⟩)
  all_goals first | (exfalso; omega) | skip
  exact f_c
 by_cases h2 : 16 < x
 ·have HR := a_2 (show a_b (x < 1 ∨ 16 < x) 1 = 1 from a_k (.inr h2))
  go_enter func112, ntmps112
  go_wp2_with (go_at_call 24; refine (a_8 _ _ _).mono ?_; rintro e w' ⟨rfl, rfl⟩)
  all_goals first | (exfalso; omega) | skip
  exact f_c
 ·have HR := a_2 (show a_b (x < 1 ∨ 16 < x) 1 = 0 from a_G o_)
  go_enter func112, ntmps112
  go_wp2_with (go_at_call 24; refine (a_8 _ _ _).mono ?_; rintro e w' ⟨rfl, rfl⟩)
  all_goals first | (exfalso; omega) | skip
  exact f_c
end Go.Proofs.YtnpjibaolicbmaaGreatDoor
