/- Parts of the proof. -/
import Derived.Test.YtmbeeefkpgfgmaaGreatDoorPp34
set_option linter.unusedVariables false
set_option linter.unusedSimpArgs false
set_option maxHeartbeats 8000000
namespace Go.Proofs.YtmbeeefkpgfgmaaGreatDoor
open Go.Proofs.Tryz
open Go.RowKit
set_option maxRecDepth 100000
theorem e_k (s : Stp) (a : Adr) (w : World) (hA : s.At w a) (ho : s.ok) :
  Calls prog 16 #[s.agg a] w fun e w' => e = .returned (.int .i64 (d_0 s)) ∧ Below w.heap.size w w' := by
 by_cases hlo : s.op < 0
 ·have HX := a_0 (show d_0 s = 8 from by unfold d_0; rw [if_pos (.inl hlo)])
  clear hA ho
  go_enter func16, ntmps16
  go_wp2
  go_ret
  exact ⟨a_k HX.out.symm, zX⟩
 by_cases hhi : 12 < s.op
 ·have HX := a_0 (show d_0 s = 8 from by unfold d_0; rw [if_pos (.inr (.inl hhi))])
  clear hA ho
  go_enter func16, ntmps16
  go_wp2
  go_ret
  exact ⟨a_k HX.out.symm, zX⟩
 have HU := a_0 (fun W => g_T s a W o_ o_)
 have HS := a_0 (show d_0 s = if a_W s.op s.src s.names.length s.others.length s.items.length s.cond.length = true then 8 else opS s from by
  unfold d_0
  cases hu : a_W s.op s.src s.names.length s.others.length s.items.length s.cond.length
  ·rw [if_neg m_]; rfl
  ·rw [if_pos s_]; rfl)
 cases hu : a_W s.op s.src s.names.length s.others.length s.items.length s.cond.length
 rotate_left
 ·rw [hu] at HU HS
  have HX := a_0 (HS.out.trans (if_pos rfl))
  clear hA ho HS hu
  go_enter func16, ntmps16
  go_wp2_with (go_at_call 59; refine (HU.out _).mono ?_; rintro e w1 ⟨rfl, hb1⟩)
  go_ret
  exact ⟨a_k HX.out.symm, a_5 (a_4 (b_ (w.heap.size + 1) (w.alloc _)) s_ hb1)⟩
 rw [hu] at HU HS
 have HX := a_0 (show d_0 s = opS s from HS.out.trans (if_neg d_))
 clear HS hu
 have HA := a_0 hA
 have HO := a_0 ho
 clear hA ho
 obtain ⟨op, src, names, others, its, cond⟩ := s
 obtain ⟨nA, nC, oA, oC, iA, iC, cA, cC⟩ := a
 simp only at hlo hhi
 refine u_k ?_; intro hop
 show Calls prog 16 #[.agg #[.int .i64 op, str src, .slice nA names.length nC, .slice oA others.length oC, .slice iA its.length iC, .slice cA cond.length cC]] w _
 generalize d_0 _ = r at *
 clear hlo hhi
 rcases hop with rfl | rfl | rfl | rfl | rfl | rfl | rfl | rfl | rfl | rfl | rfl | rfl | rfl
 ·have HV := a_0 (show r = g_X src from HX.out.trans (by unfold opS; simp))
  have HC := a_0 (fun W => n_G src W HO.out.src)
  clear HX
  unfold g_X at HV
  cases hq : qlB src
  all_goals
   rw [hq] at HC HV; clear HA HO hq
   go_enter func16, ntmps16
   go_wp2_with (first
    | (go_at_call 59; refine (HU.out _).mono ?_; rintro e w1 ⟨rfl, hb1⟩; have hcur := a_4 (b_ (w.heap.size + 1) (w.alloc _)) s_ hb1; obtain ⟨m0, m1, m2, m3, m4, m5, hlw⟩ := b_k hcur)
    | (go_at_call 60; refine (HC.out _).mono ?_; rintro e w2 ⟨rfl, hb2⟩))
   exact n_5
 ·have HV := a_0 (show r = a_x cond from HX.out.trans (by unfold opS; simp))
  have HC := a_0 (fun W (hW : Below w.heap.size w W) => c_O cA cond cC W (HA.out.cond.below hW) HO.out.cond HO.out.condN)
  clear HX HA HO
  go_enter func16, ntmps16
  go_wp2_with (first
   | (go_at_call 59; refine (HU.out _).mono ?_; rintro e w1 ⟨rfl, hb1⟩; have hcur := a_4 (b_ (w.heap.size + 1) (w.alloc _)) s_ hb1; obtain ⟨m0, m1, m2, m3, m4, m5, hlw⟩ := b_k hcur)
   | (go_at_call 61; refine (HC.out _ (a_5 hcur)).mono ?_; rintro e w2 ⟨rfl, hb2⟩))
  exact n_5
 ·have HV := a_0 (show r = a_F its 1 false false false true (fun x => a_x x.expr) from HX.out.trans (by unfold opS; simp))
  have HC := a_0 (fun W (hW : Below w.heap.size w W) => g_Z _ _ W (HA.out.below hW) HO.out)
  clear HX HA HO
  go_enter func16, ntmps16
  go_wp2_with (first
   | (go_at_call 59; refine (HU.out _).mono ?_; rintro e w1 ⟨rfl, hb1⟩; have hcur := a_4 (b_ (w.heap.size + 1) (w.alloc _)) s_ hb1; obtain ⟨m0, m1, m2, m3, m4, m5, hlw⟩ := b_k hcur)
   | (go_at_call 62; refine (HC.out _ (a_5 hcur)).mono ?_; rintro e w2 ⟨rfl, hb2⟩))
  exact n_5
 ·have HV := a_0 (show r = a_Y names 1 from HX.out.trans (by unfold opS; simp))
  have HC := a_0 (fun W (hW : Below w.heap.size w W) => c_n nA names nC 1 W (HA.out.names.below hW) HO.out.names (l_ _) HA.out.cn)
  clear HX HA HO
  go_enter func16, ntmps16
  go_wp2_with (first
   | (go_at_call 59; refine (HU.out _).mono ?_; rintro e w1 ⟨rfl, hb1⟩; have hcur := a_4 (b_ (w.heap.size + 1) (w.alloc _)) s_ hb1; obtain ⟨m0, m1, m2, m3, m4, m5, hlw⟩ := b_k hcur)
   | (go_at_call 63; refine (HC.out _ (a_5 hcur)).mono ?_; rintro e w2 ⟨rfl, hb2⟩))
  exact n_5
 ·have HV := a_0 (show r = g_d ⟨4, src, names, others, its, cond⟩ from HX.out.trans (by unfold opS; simp))
  refine t_K ?_; intro HC
  clear HX HA HO
  go_enter func16, ntmps16
  go_wp2_with (first
   | (go_at_call 59; refine (HU.out _).mono ?_; rintro e w1 ⟨rfl, hb1⟩; have hcur := a_4 (b_ (w.heap.size + 1) (w.alloc _)) s_ hb1; obtain ⟨m0, m1, m2, m3, m4, m5, hlw⟩ := b_k hcur)
   | (go_at_call 64; refine (HC.out _ (a_5 hcur)).mono ?_; rintro e w2 ⟨rfl, hb2⟩))
  exact n_5
 ·have HV := a_0 (show r = g_d ⟨5, src, names, others, its, cond⟩ from HX.out.trans (by unfold opS; simp))
  refine t_K ?_; intro HC
  clear HX HA HO
  go_enter func16, ntmps16
  go_wp2_with (first
   | (go_at_call 59; refine (HU.out _).mono ?_; rintro e w1 ⟨rfl, hb1⟩; have hcur := a_4 (b_ (w.heap.size + 1) (w.alloc _)) s_ hb1; obtain ⟨m0, m1, m2, m3, m4, m5, hlw⟩ := b_k hcur)
   | (go_at_call 64; refine (HC.out _ (a_5 hcur)).mono ?_; rintro e w2 ⟨rfl, hb2⟩))
  exact n_5
 ·have HV := a_0 (show r = g_d ⟨6, src, names, others, its, cond⟩ from HX.out.trans (by unfold opS; simp))
  refine t_K ?_; intro HC
  clear HX HA HO
  go_enter func16, ntmps16
  go_wp2_with (first
   | (go_at_call 59; refine (HU.out _).mono ?_; rintro e w1 ⟨rfl, hb1⟩; have hcur := a_4 (b_ (w.heap.size + 1) (w.alloc _)) s_ hb1; obtain ⟨m0, m1, m2, m3, m4, m5, hlw⟩ := b_k hcur)
   | (go_at_call 64; refine (HC.out _ (a_5 hcur)).mono ?_; rintro e w2 ⟨rfl, hb2⟩))
  exact n_5
 ·have HV := a_0 (show r = g_d ⟨7, src, names, others, its, cond⟩ from HX.out.trans (by unfold opS; simp))
  refine t_K ?_; intro HC
  clear HX HA HO
  go_enter func16, ntmps16
  go_wp2_with (first
   | (go_at_call 59; refine (HU.out _).mono ?_; rintro e w1 ⟨rfl, hb1⟩; have hcur := a_4 (b_ (w.heap.size + 1) (w.alloc _)) s_ hb1; obtain ⟨m0, m1, m2, m3, m4, m5, hlw⟩ := b_k hcur)
   | (go_at_call 64; refine (HC.out _ (a_5 hcur)).mono ?_; rintro e w2 ⟨rfl, hb2⟩))
  exact n_5
 ·have HV := a_0 (show r = d_3 src from HX.out.trans (by unfold opS; simp))
  have HC := a_0 (fun W (hW : Below w.heap.size w W) => d_6 src W HO.out.src)
  clear HX HA HO
  go_enter func16, ntmps16
  go_wp2_with (first
   | (go_at_call 59; refine (HU.out _).mono ?_; rintro e w1 ⟨rfl, hb1⟩; have hcur := a_4 (b_ (w.heap.size + 1) (w.alloc _)) s_ hb1; obtain ⟨m0, m1, m2, m3, m4, m5, hlw⟩ := b_k hcur)
   | (go_at_call 65; refine (HC.out _ (a_5 hcur)).mono ?_; rintro e w2 ⟨rfl, hb2⟩))
  exact n_5
 ·have HV := a_0 (show r = d_3 src from HX.out.trans (by unfold opS; simp))
  have HC := a_0 (fun W (hW : Below w.heap.size w W) => d_6 src W HO.out.src)
  clear HX HA HO
  go_enter func16, ntmps16
  go_wp2_with (first
   | (go_at_call 59; refine (HU.out _).mono ?_; rintro e w1 ⟨rfl, hb1⟩; have hcur := a_4 (b_ (w.heap.size + 1) (w.alloc _)) s_ hb1; obtain ⟨m0, m1, m2, m3, m4, m5, hlw⟩ := b_k hcur)
   | (go_at_call 65; refine (HC.out _ (a_5 hcur)).mono ?_; rintro e w2 ⟨rfl, hb2⟩))
  exact n_5
 ·have HV := a_0 (show r = 0 from HX.out.trans (by unfold opS; simp))
  clear HX HA HO
  go_enter func16, ntmps16
  go_wp2_with (go_at_call 59; refine (HU.out _).mono ?_; rintro e w1 ⟨rfl, hb1⟩; have hcur := a_4 (b_ (w.heap.size + 1) (w.alloc _)) s_ hb1; obtain ⟨m0, m1, m2, m3, m4, m5, hlw⟩ := b_k hcur)
  go_ret
  exact ⟨a_k HV.out.symm, a_5 hcur⟩
 ·have HV := a_0 (show r = f_W ⟨11, src, names, others, its, cond⟩ from HX.out.trans (by unfold opS; simp))
  have HC := a_0 (fun W (hW : Below w.heap.size w W) => h_x _ _ W (HA.out.below hW) HO.out)
  clear HX HA HO
  go_enter func16, ntmps16
  go_wp2_with (first
   | (go_at_call 59; refine (HU.out _).mono ?_; rintro e w1 ⟨rfl, hb1⟩; have hcur := a_4 (b_ (w.heap.size + 1) (w.alloc _)) s_ hb1; obtain ⟨m0, m1, m2, m3, m4, m5, hlw⟩ := b_k hcur)
   | (go_at_call 66; refine (HC.out _ (a_5 hcur)).mono ?_; rintro e w2 ⟨rfl, hb2⟩))
  exact n_5
 ·have HV := a_0 (show r = e_O ⟨12, src, names, others, its, cond⟩ from HX.out.trans (by unfold opS; simp))
  have HC := a_0 (fun W (hW : Below w.heap.size w W) => g_S _ _ W (HA.out.below hW) HO.out)
  clear HX HA HO
  go_enter func16, ntmps16
  go_wp2_with (first
   | (go_at_call 59; refine (HU.out _).mono ?_; rintro e w1 ⟨rfl, hb1⟩; have hcur := a_4 (b_ (w.heap.size + 1) (w.alloc _)) s_ hb1; obtain ⟨m0, m1, m2, m3, m4, m5, hlw⟩ := b_k hcur)
   | (go_at_call 67; refine (HC.out _ (a_5 hcur)).mono ?_; rintro e w2 ⟨rfl, hb2⟩))
  exact n_5
def h_g (ss : List Stp) (i : Nat) : Int := if d_0 (ss.getD i j_J) = 0 then (if ((ss.getD i j_J).op = 0 ↔ i = 0) then 0 else 8) else d_0 (ss.getD i j_J)
set_option maxRecDepth 512
theorem o_X {ss : List Stp} {i : Nat} (h : i < ss.length) : h_g ss i = if d_0 ss[i] = 0 then (if (ss[i].op = 0 ↔ i = 0) then 0 else 8) else d_0 ss[i] := by
 unfold h_g; rw [List.getD_eq_getElem?_getD, List.getElem?_eq_getElem h]; rfl
theorem k_H {ss : List Stp} (h : ¬ (ss.length < 1 ∨ 16 < ss.length)) : a_E ss = b_p (h_g ss) ss.length := by
 unfold a_E; rw [if_neg h]; rfl
def s_n (ss : List Stp) : Prop := ∀ s ∈ ss, s.ok
set_option maxRecDepth 100000
theorem g_5 (A : Option Addr) (ss : List Stp) (c : Nat) (w : World) (h : d_l w A ss) (hl : ss.length ≤ 1000000) (hk : s_n ss) :
  Calls prog 18 #[.slice A ss.length c] w fun e w' => e = .returned (.int .i64 (a_E ss)) ∧ Below w.heap.size w w' := by
 have HA := a_0 h
 have HK := a_0 hk
 clear h hk
 by_cases h1 : ss.length < 1
 ·have HE := a_0 (show a_E ss = 2 from by unfold a_E; rw [if_pos (.inl h1)])
  go_enter func18, ntmps18
  go_wp2
  all_goals first | (exfalso; omega) | skip
  exact q_P
 by_cases h2 : 16 < ss.length
 ·have HE := a_0 (show a_E ss = 2 from by unfold a_E; rw [if_pos (.inr h2)])
  go_enter func18, ntmps18
  go_wp2
  all_goals first | (exfalso; omega) | skip
  exact q_P
 have HE := a_0 (k_H (ss := ss) o_)
 generalize a_E ss = r at *
 go_enter func18, ntmps18
 go_wp2
 all_goals first | (exfalso; omega) | skip
 go_loopw [3] (fun i wr => ∃ k : Nat, k ≤ ss.length ∧ i = .int .i64 k ∧ Hid (∀ j, j < k → h_g ss j = 0) ∧ Below w.heap.size w wr) (fun i _ => ss.length - (intOf i).toNat)
 case atStart => exact ⟨0, o_, rfl, fun j hj => absurd hj (Nat.not_lt_zero _), b_ _ _⟩
 case round =>
  obtain ⟨k, hk, rfl, HZ, hbel⟩ := hrel
  by_cases hlt : k < ss.length
  ·rcases HA.out.below hbel with e | ⟨g, off, rfl, hg, hc⟩
   ·exact absurd hlt e_
   obtain ⟨a, ha, c0, c1, c2, c3, c4, c5⟩ := hc k hlt; have HV := a_0 (e_k ss[k] a wr ha (HK.out _ (List.getElem_mem hlt))); refine v_X ?_; intro HT HF HN; have HC0 := a_0 (fun W (hb : Below wr.heap.size wr W) => (hb.cell (p := ⟨g, off + k * 6, none⟩) hg).trans c0); clear hc ha; generalize d_0 ss[k] = v at *; obtain ⟨x, hx⟩ : ∃ x, x = ss[k] := ⟨_, rfl⟩; rw [← hx] at c0 c1 c2 c3 c4 c5 HV HT HC0; clear hx
   by_cases hv : v = 0
   rotate_left
   ·have hvb : (v != 0) = true := by simpa using hv
    have HR := a_0 (HF.out v (by rw [HT.out, if_neg hv]) hv); clear HT HF HN hv
    go_wp2_with (go_at_call 16; refine (HV.out).mono ?_; rintro e w1 ⟨rfl, hb1⟩)
    exact s_c
   subst hv; refine s_5 ?_; intro HT2
   by_cases ho : x.op = 0
   ·have hp : (x.op == 0) = true := by simpa using ho
    by_cases hk0 : k = 0
    ·have hq : ((k : Int) == 0) = true := by simpa using hk0
     refine t_O ?_; intro HR; clear HT HF HN HT2 ho hk0
     go_wp2_with (go_at_call 16; refine (HV.out).mono ?_; rintro e w1 ⟨rfl, hb1⟩; have d0 := HC0.out _ hb1)
     exact ⟨⟨k + 1, o_, t_, HR, a_n hb1 hbel⟩, w_⟩
    ·have hq : ((k : Int) == 0) = false := beq_eq_false_iff_ne.2 o_
     refine t_A ?_; intro HR; clear HT HF HN HT2 ho hk0
     go_wp2_with (go_at_call 16; refine (HV.out).mono ?_; rintro e w1 ⟨rfl, hb1⟩; have d0 := HC0.out _ hb1)
     exact s_c
   ·have hp : (x.op == 0) = false := beq_eq_false_iff_ne.2 ho
    by_cases hk0 : k = 0
    ·have hq : ((k : Int) == 0) = true := by simpa using hk0
     refine t_A ?_; intro HR; clear HT HF HN HT2 ho hk0
     go_wp2_with (go_at_call 16; refine (HV.out).mono ?_; rintro e w1 ⟨rfl, hb1⟩; have d0 := HC0.out _ hb1)
     exact s_c
    ·have hq : ((k : Int) == 0) = false := beq_eq_false_iff_ne.2 o_
     refine t_O ?_; intro HR; clear HT HF HN HT2 ho hk0
     go_wp2_with (go_at_call 16; refine (HV.out).mono ?_; rintro e w1 ⟨rfl, hb1⟩; have d0 := HC0.out _ hb1)
     exact ⟨⟨k + 1, o_, t_, HR, a_n hb1 hbel⟩, w_⟩
  ·obtain rfl : k = ss.length := by omega
   refine r_W ?_; intro HR
   go_wp2
   exact s_K
set_option maxRecDepth 512
def h_U (ts : List Tok) (s : QSt) : Stp × QSt :=
 if a_e ts s = true ∧ b_f (tk ts s.i).text ≠ 0 then b_2 true ts (b_f (tk ts s.i).text) ⟨s.i + 1, 0⟩ else (j_J, s.fail 3)
theorem l_r (ts : List Tok) (G : Nat) (l : List Stp) (s : QSt) (h : isT ts s 5 q_D = true) :
  c_d true ts (G + 1) l s = c_d true ts G (l ++ [(h_U ts ⟨s.i + 1, 0⟩).1]) (h_U ts ⟨s.i + 1, 0⟩).2 := by
 rw [c_d, if_pos h]
 unfold h_U
 have e : a_e ts ⟨s.i + 1, 0⟩ = ((tk ts (s.i + 1)).kind == 1) := by unfold a_e; simp
 rw [e]
 by_cases hc : (tk ts (s.i + 1)).kind = 1 ∧ b_f (tk ts (s.i + 1)).text ≠ 0
 ·rw [if_pos hc, if_pos ⟨by simpa using hc.1, hc.2⟩]
 ·rw [if_neg hc, if_pos rfl, if_neg (fun h9 => hc ⟨by simpa using h9.1, h9.2⟩)]
  rw [g_m (by simp [QSt.fail])]
  simp [QSt.fail]
theorem SRw.stepR {base P cc c : Nat} {W w' : World} {A B : Option Addr} {ts : List Tok} {s : QSt} {l : List Stp} {az : List Adr} (h : SRw base W l B c az) (hS : QPt QR W P A ts cc s) (hg : W.grownBy w' (some P)) (hb : P < base) : SRw base w' l B c az :=
 ⟨a_v h.own hg hb, h.len, h.firm.keep (a_S hS hg d_)⟩
set_option maxRecDepth 100000
theorem r_n (W : World) (P : Nat) (A : Option Addr) (ts : List Tok) (cc : Nat) (s : QSt) (hv : a_O ts = true)
  (hstep : ∀ (W' : World) (t : QSt), QPt QR W' P A ts cc t → t.i < ts.length → Calls prog 120 #[.pointer (some ⟨P, 0, none⟩)] W' fun e w' => k_P w' (h_U ts t).1 e ∧ QPost QR W' P A ts cc (h_U ts t).2 w')
  (hgo : ∀ t, t.i < ts.length → Go ts.length t (h_U ts t).2)
  (hS : QPt QR W P A ts cc s) (hi : s.i < ts.length) (hl' : ts.length + 2 ≤ 1000000) :
  Calls prog 75 #[a_G P] W fun e w' => (∃ B c az, e = .returned (.slice B (a_w true ts s).1.length c) ∧ SRw W.heap.size w' (a_w true ts s).1 B c az) ∧ QPost QR W P A ts cc ⟨(a_w true ts s).2.i, if (a_w true ts s).2.e = 0 then a_E (a_w true ts s).1 else (a_w true ts s).2.e⟩ w' := by
 have hl : ts.length ≤ 1000000 := by omega
 have hP := hS.lt
 obtain ⟨i0, hi0, hz0, hz1, hz2⟩ := info_parts Tryz.info_step
 have hqok := h_6 hv o_ true s hi
 have HWo := a_0 (e_S W P A ts cc s hS hi hl d_7)
 have hi1 := (a_H hv s (k := 1) d_ d_7).lt hi
 have HN := a_0 (fun (W' : World) (h : QPt QR W' P A ts cc (a_c ts s 1 d_7)) => c_V W' P A ts cc _ h hi1 hl)
 have hi2 := (a_V hv (a_c ts s 1 d_7)).lt hi1
 have HStart := a_0 (show ∃ G, ((a_7 ts (a_c ts s 1 d_7)).2.e = 0 → ts.length < (a_7 ts (a_c ts s 1 d_7)).2.i + G) ∧ c_d true ts G [⟨0, (a_7 ts (a_c ts s 1 d_7)).1, [], [], [], []⟩] (a_7 ts (a_c ts s 1 d_7)).2 = a_w true ts s from ⟨ts.length + 1, fun _ => by omega, rfl⟩)
 generalize a_w true ts s = R at *
 obtain ⟨F, hF⟩ : ∃ F : QSt, F = ⟨R.2.i, if R.2.e = 0 then a_E R.1 else R.2.e⟩ := ⟨_, rfl⟩
 rw [← hF]
 have HF := a_0 hF
 clear hF
 generalize a_7 ts (a_c ts s 1 d_7) = r1 at *
 obtain ⟨x, s2⟩ := r1
 generalize a_c ts s 1 d_7 = s1 at *
 simp only at HN hi2 HStart
 have HStep := a_0 hstep
 have HGo := a_0 hgo
 have HOk := a_0 hqok
 clear hS hi hi1 hstep hgo hqok
 go_enter func75, ntmps75
 go_wp2_with fail
 refine HWo.out.mono ?_
 rintro e w1 ⟨rfl, hq1⟩
 refine s_3 ?_; intro HQ1 HG1
 clear hq1 HWo
 go_wp2_with fail
 refine (HN.out _ HQ1.out).mono ?_
 rintro e w2 ⟨rfl, hq2⟩
 have HQ2 := a_0 hq2.pt
 have HG2 := a_0 (HG1.out.trans hq2.gr)
 have hz2' := HG2.out.size
 clear hq2 HQ1 HG1 HN
 have HR3 := a_0 (show SRw W.heap.size (w2.alloc (.cells #[.int .i64 0, str x, .slice none 0 0, .slice none 0 0, .slice none 0 0, .slice none 0 0] 27)) [⟨0, x, [], [], [], []⟩] (some ⟨w2.heap.size, 0, none⟩) 1 [⟨none, 0, none, 0, none, 0, none, 0⟩] from SRw.one (x := ⟨0, x, [], [], [], []⟩) (a := ⟨none, 0, none, 0, none, 0, none, 0⟩) hz2' (fun v _ => ⟨.inl rfl, .inl rfl, .inl rfl, .inl rfl, l_ _, l_ _, l_ _⟩))
 have HB3 := a_0 (show Below w2.heap.size w2 (w2.alloc (.cells #[.int .i64 0, str x, .slice none 0 0, .slice none 0 0, .slice none 0 0, .slice none 0 0] 27)) from Below.alloc (b_ _ w2) (l_ _) _)
 have HQ3 := a_0 (HQ2.out.below HB3.out)
 have HG3 := a_0 (HG2.out.trans (a_1 HB3.out))
 clear HQ2 HG2 HB3
 go_wp2_with fail
 go_loopw [3] (fun m wr => ∃ (l : List Stp) (B : Option Addr) (c : Nat) (az : List Adr) (t : QSt), m = .slice B l.length c ∧ Hid (QPt QR wr P A ts cc t) ∧ Hid (SRw W.heap.size wr l B c az) ∧ Hid (W.grownBy wr (some P)) ∧ t.i < ts.length ∧ l.length ≤ ts.length ∧ (t.e = 0 → l.length ≤ t.i + 1) ∧ Hid (∃ G, (t.e = 0 → ts.length < t.i + G) ∧ c_d true ts G l t = R)) (fun m wr => n_4 ts P wr)
 case atStart => exact ⟨_, _, _, _, s2, rfl, HQ3, HR3, HG3, hi2, m_, fun _ => by simp, HStart⟩
 case round =>
  clear HQ3 HR3 HG3 hi2 HStart
  obtain ⟨l, B, c, az, t, rfl, HS, HR, HG, hi, hlt, hln, HE⟩ := hrel
  have HIs := a_0 (d_s wr P A ts cc t HS.out hi hl q_D)
  have hms := d_H HS.out
  obtain ⟨G, hGl, hE⟩ := HE.out
  by_cases hb : isT ts t 5 q_D = true
  ·have he0 := (b_3 hb).1
   have hGl := hGl he0; have hln := hln he0; rw [if_pos he0] at hms
   cases G with
   | zero => omega
   | succ G =>
   rw [l_r ts G l t hb] at hE; rw [hb] at HIs; have hnx := b_e hv hi d_ hb; have HSt := a_0 (fun (W' : World) (h : QPt QR W' P A ts cc ⟨t.i + 1, 0⟩) => HStep.out W' ⟨t.i + 1, 0⟩ h hnx); have hbd := HGo.out ⟨t.i + 1, 0⟩ hnx; generalize h_U ts ⟨t.i + 1, 0⟩ = r at *; obtain ⟨sx, u⟩ := r; simp only at HSt hE hbd; have HE2 := a_0 hE; clear hE HE
   go_wp2_with fail
   refine HIs.out.mono ?_; rintro e w5 ⟨rfl, hb5⟩; have hQ7 := HS.out.below hb5; obtain ⟨k0, k1, k2⟩ := hQ7.cells; have hf := hQ7.free; have hP7 := hQ7.lt; have g8 : w5.grownBy (w5.setCell ⟨P, 1, none⟩ (.int .i64 ((t.i + 1 : Nat) : Int))) (some P) := a_d (g_ w5 (some P)) 1 (.int .i64 ((t.i + 1 : Nat) : Int)); have HQ8 := a_0 (show QPt QR (w5.setCell ⟨P, 1, none⟩ (.int .i64 ((t.i + 1 : Nat) : Int))) P A ts cc ⟨t.i + 1, 0⟩ from by have := hQ7.setAt (t.i + 1); rw [he0] at this; exact this); have HR8 := a_0 ((HR.out.below hb5).stepR hQ7 g8 hP); have HG8 := a_0 ((HG.out.trans (a_1 hb5)).trans g8); clear hb5 hQ7 g8 HIs HS HR HG
   go_wp2_with fail
   refine (HSt.out _ HQ8.out).mono ?_; rintro e w9 ⟨⟨a, rfl, hfx⟩, hq9⟩; have HQ9 := a_0 hq9.pt; have HR9 := a_0 (HR8.out.stepR HQ8.out hq9.gr hP); have HG9 := a_0 (HG8.out.trans hq9.gr); have hz9 := HG9.out.size; have HF9 := a_0 hfx; clear hq9 hfx HQ8 HR8 HG8 HSt k0 k1 k2 hf; have hP9 := HQ9.out.lt
   go_wp2_with (at_builtin; refine wpList_append_own _ rfl _ _ 22 rfl W.heap.size 27 i0 _ 6 120 underlying22 hi0 hz0 hz1 hz2 rfl d_ _ _ _ rfl (a_8 HR9.out.own zX) ⟨_, 0, none⟩ 1 1 [.int .i64 sx.op, str sx.src, .slice a.nA sx.names.length a.nC, .slice a.oA sx.others.length a.oC, .slice a.iA sx.items.length a.iC, .slice a.cA sx.cond.length a.cC] rfl rfl (by exact b_h (b_d s_)) c_ x_ o_ m_ ?_; intro v4 w10 o4 g4 _; obtain ⟨B4, n4, rfl⟩ := a_i o4; have hbx : Below w9.heap.size w9 _ := Below.alloc (b_ _ w9) (l_ _) (.cells #[.int .i64 sx.op, str sx.src, .slice a.nA sx.names.length a.nC, .slice a.oA sx.others.length a.oC, .slice a.iA sx.items.length a.iC, .slice a.cA sx.cond.length a.cC] 27); have hr := fun k e => ((HR9.out.below hbx).own.lt k e).1; have HR10 := a_0 (SRw.push (x := sx) (a := a) (HR9.out.below hbx) (HF9.out.keep (a_I.of_below hbx)) g4 o4); have HQ10 := a_0 ((HQ9.out.below hbx).gr g4 (fun k e => by have := hr k e; omega)); have HG10 := a_0 ((HG9.out.trans (a_1 hbx)).andThen g4 (fun k e => .inl (hr k e))); clear o4 g4 hbx hr HQ9 HR9 HG9 HF9)
   refine ⟨⟨l ++ [sx], B4, n4, az ++ [a], u, s_, HQ10, HR10, HG10, hbd.lt hnx, m_, fun h0 => by have := (hbd.mono h0).2; simp at this ⊢; omega, a_0 ⟨G, fun h0 => by have := (hbd.mono h0).2; simp at this; omega, HE2.out⟩⟩, ?_⟩; rw [hms, d_H HQ10.out]
   split
   ·rename_i h0
    have := (hbd.mono h0).2
    simp at this
    omega
   ·omega
  ·have hbf : isT ts t 5 q_D = false := by simpa using hb
   have hE : (l, t) = R := by
    rw [← hE]
    cases G with
    | zero => rfl
    | succ G =>
     unfold c_d; rw [if_neg hb]
   rw [hbf] at HIs; have HOk2 := a_0 (show (∀ x ∈ l, Stp.ok x) ∧ l.length ≤ ts.length + 2 from by have := HOk.out; rw [← hE] at this; exact ⟨this.1, this.2.1⟩); have HE2 := a_0 hE; clear HE hE HOk
   go_wp2_with fail
   refine HIs.out.mono ?_; rintro e w5 ⟨rfl, hb5⟩; have HS5 := a_0 (HS.out.below hb5); have HR5 := a_0 (HR.out.below hb5); have HG5 := a_0 (HG.out.trans (a_1 hb5)); clear hb5 HIs HS HR HG; obtain ⟨k0, k1, k2⟩ := HS5.out.cells; have hf := HS5.out.free; have hP5 := HS5.out.lt
   by_cases he : t.e = 0
   ·rw [he] at k2
    have HVe := a_0 (g_5 B l c w5 HR5.out.at_ o_ HOk2.out.1); have HRe := a_0 (show F = ⟨t.i, a_E l⟩ from by rw [HF.out, ← HE2.out]; simp only; rw [if_pos he]); clear he
    go_wp2_with fail
    refine HVe.out.mono ?_; rintro e w6 ⟨rfl, hb6⟩; have hS6 := HS5.out.below hb6; clear k0 k1 k2 hf; obtain ⟨k0, k1, k2⟩ := hS6.cells; have hf := hS6.free; have hP6 := hS6.lt; have g7 : w6.grownBy (w6.setCell ⟨P, 2, none⟩ (.int .i64 (a_E l))) (some P) := a_d (g_ w6 (some P)) 2 (.int .i64 (a_E l)); have HQ7 := a_0 (show QPost QR W P A ts cc F (w6.setCell ⟨P, 2, none⟩ (.int .i64 (a_E l))) from by rw [HRe.out]; exact ⟨hS6.setErr (a_E l), (HG5.out.trans (a_1 hb6)).trans g7⟩); have HR7 := a_0 ((HR5.out.below hb6).stepR hS6 g7 hP); clear hS6 g7 hb6 HVe HS5 HR5 HG5 HRe
    go_wp2
    go_ret
    refine ⟨?_, HQ7.out⟩; rw [← HE2.out]
    first | exact ⟨_, _, _, rfl, HR7.out⟩ | exact ⟨_, _, rfl, _, HR7.out⟩
   ·have hxb : (t.e == 0) = false := beq_eq_false_iff_ne.2 he
    have HQ7 := a_0 (show QPost QR W P A ts cc F w5 from by rw [HF.out, ← HE2.out]; simp only; rw [if_neg he]; exact ⟨HS5.out, HG5.out⟩); clear he
    go_wp2
    go_ret
    refine ⟨?_, HQ7.out⟩; rw [← HE2.out]
    first | exact ⟨_, _, _, rfl, HR5.out⟩ | exact ⟨_, _, rfl, _, HR5.out⟩
set_option maxRecDepth 512
theorem p_i {ts : List Tok} (hv : a_O ts = true) (hl : ts.length + 1 ≤ 1000000) (t : QSt) (hi : t.i < ts.length) : Go ts.length t (h_U ts t).2 := by
 unfold h_U
 by_cases h : a_e ts t = true ∧ b_f (tk ts t.i).text ≠ 0
 ·rw [if_pos h]
  have hn := b_r hv hi h.1
  refine Go.trans (b := ⟨t.i + 1, 0⟩) ?_ (k_Q hv hl true _ ⟨t.i + 1, 0⟩ hn).2
  exact ⟨fun _ => hn, fun _ => ⟨(a_D h.1).1, Nat.le_succ _⟩⟩
 ·rw [if_neg h]
  exact h_o _ _ d_
end Go.Proofs.YtmbeeefkpgfgmaaGreatDoor
