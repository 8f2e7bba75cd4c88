/- Parts of the proof. -/
import Derived.Test.YtnpjibaolicbmaaGreatDoorPp37
set_option linter.unusedVariables false
set_option linter.unusedSimpArgs false
set_option maxHeartbeats 8000000
namespace Go.Proofs.YtnpjibaolicbmaaGreatDoor
open Go.Proofs.Tryz
open Go.RowKit
abbrev h_i (w : World) (b : Nat) (m : Mdu) (u : Pl) (a : DAdr) : Prop := w.heap[b]? = some (.cells #[str m.name, slV u m.uses.length, slV a.z m.defs.zones.length, slV a.s m.defs.srcs.length, slV a.m m.defs.macs.length, slV a.d m.defs.mdls.length, slV a.n m.defs.snps.length, slV a.c m.defs.chks.length] 36)
theorem l_1 (Bm : Nat) (m : Mdu) (u : Pl) (a : DAdr) (w : World) (hB : h_i w Bm m u a) (hW : a_v w 1 a_w) : b_8 w 21 #[a_f Bm] (a_F m.name) := by
 refine ⟨fun args W => by kernel_rfl, fun W hW2 => ?_⟩
 refine e_T ?_; intro hh
 have c0 : W.cell? ⟨Bm, 0, none⟩ = some (str m.name) := a_0 hh 0
 have HM := a_2 (b_v m.name W (hW.below hW2))
 clear hW hW2 hh hB
 generalize a_F m.name = v at *
 generalize m.name = x at *
 go_enter func21, ntmps21
 go_wp2_with (go_at_call 22; refine (HM.out).mono ?_; rintro e w1 ⟨rfl, hb1⟩)
 exact d_s
theorem k_Q (B0 Bi Bm : Nat) (A : Option Addr) (c : Nat) (ms : List Mdu) (i : Nat) (m : Mdu) (u : Pl) (a : DAdr) (w : World) (h0 : w.heap[B0]? = some (.cells #[.slice A ms.length c] 22)) (hI : w.heap[Bi]? = some (.cells #[.int .i64 i] 3)) (hB : h_i w Bm m u a)
  (hM : c_b w A ms) (hi : i < ms.length) (hc : ms.length ≤ c) (hl : ms.length ≤ 16) : b_8 w 23 #[a_f B0, a_f Bi, a_f Bm] (a_b (m.name ∈ (c_9 ms).take i) 6) := by
 refine ⟨fun args W => by kernel_rfl, fun W hW2 => ?_⟩
 refine e_T ?_; intro hh
 have hh0 := (hW2.block _ (a_6 h0)).trans h0
 have hhi := (hW2.block _ (a_6 hI)).trans hI
 have c0 : W.cell? ⟨Bm, 0, none⟩ = some (str m.name) := a_0 hh 0
 have d0 : W.cell? ⟨B0, 0, none⟩ = some (.slice A ms.length c) := a_0 hh0 0
 have e0 : W.cell? ⟨Bi, 0, none⟩ = some (.int .i64 i) := a_0 hhi 0
 have HE := a_2 (show a_b (m.name ∈ (c_9 ms).take i) 6 = if decide (m.name ∈ (c_9 ms).take i) = true then 6 else 0 from by unfold a_b; simp only [decide_eq_true_eq])
 have HC := a_2 (fun (W2 : World) (hb : W = W2) => l_l A ms c i 26 Bm m.name W (a_l.below f_g.kept hM hW2) o_ o_ (a_6 hh) c0 (fun args V => by kernel_rfl) (fun n v1 v2 v3 v4 v5 v6 v7 V h1 h2 => m_f Bm n m.name v1 v2 v3 v4 v5 v6 v7 V h1 h2))
 have hic : i ≤ c := by omega
 have hsl : A = none → c = 0 := by
  intro e
  rcases hM with h9 | ⟨g, off, hA, _⟩
  ·rw [h9] at hi; exact absurd hi s_
  ·rw [e] at hA; cases hA
 obtain ⟨g, off, rfl⟩ : ∃ g off, A = some ⟨g, off, none⟩ := by
  rcases hM with h9 | ⟨g, off, hA, _⟩
  ·rw [h9] at hi; exact absurd hi s_
  ·exact ⟨g, off, hA⟩
 clear hW2 hh hB hh0 hhi h0 hI hM hsl
 generalize a_b (m.name ∈ (c_9 ms).take i) 6 = v at *
 generalize decide (m.name ∈ (c_9 ms).take i) = z at *
 generalize m.name = x at *
 cases z
 all_goals
  go_enter func23, ntmps23
  go_wp2_with (first
   | (go_at_call 25; refine (HC.out _ rfl).mono ?_; rintro e w1 ⟨rfl, hb1⟩)
   | (go_at_call 24; refine (a_8 _ _ _).mono ?_; rintro e w' ⟨rfl, rfl⟩))
  exact m_o
theorem l_q (B0 Bm : Nat) (A : Option Addr) (c : Nat) (ms : List Mdu) (m : Mdu) (u : Pl) (a : DAdr) (w : World) (h0 : w.heap[B0]? = some (.cells #[.slice A ms.length c] 22)) (hB : h_i w Bm m u a)
  (hM : c_b w A ms) (hl : ms.length ≤ 16) (hu : b_9 w u m.uses) (hul : m.uses.length ≤ 8796093022208) : b_8 w 27 #[a_f Bm, a_f B0] (e_B (c_9 ms) m) := by
 refine ⟨fun args W => by kernel_rfl, fun W hW2 => ?_⟩
 refine e_T ?_; intro hh
 have hh0 := (hW2.block _ (a_6 h0)).trans h0
 have d0 : W.cell? ⟨B0, 0, none⟩ = some (.slice A ms.length c) := a_0 hh0 0
 have HC := a_2 (f_X m u a A ms c W (hu.below hW2) (a_l.below f_g.kept hM hW2) o_ hul)
 refine q_R ?_; intro f0 f1 f2 f3 f4 f5 f6 f7
 clear hW2 hh hB hh0 h0 hM hu hul
 generalize e_B (c_9 ms) m = v at *
 obtain ⟨nm, us, ds⟩ := m
 obtain ⟨uA, uC⟩ := u
 obtain ⟨⟨zA, zC⟩, ⟨sA, sC⟩, ⟨mA, mC⟩, ⟨dA, dC⟩, ⟨nA, nC⟩, ⟨cA, cC⟩⟩ := a
 dsimp only [slV] at *
 go_enter func27, ntmps27
 go_wp2_with (go_at_call 28; refine (HC.out).mono ?_; rintro e w1 ⟨rfl, hb1⟩)
 exact d_s
theorem k_J (Bm : Nat) (m : Mdu) (u : Pl) (a : DAdr) (w : World) (hB : h_i w Bm m u a) (hV : PjV w) (h : m.defs.Sl w a) (ho : m.defs.ok) : b_8 w 29 #[a_f Bm] (f_q m.defs) := by
 refine ⟨fun args W => by kernel_rfl, fun W hW2 => ?_⟩
 refine e_T ?_; intro hh
 have HC := a_2 (b_p m.defs a W (hV.below hW2) (h.below hW2) ho)
 refine q_R ?_; intro f0 f1 f2 f3 f4 f5 f6 f7
 clear hW2 hh hB hV h ho
 obtain ⟨nm, us, ds⟩ := m
 obtain ⟨uA, uC⟩ := u
 obtain ⟨⟨zA, zC⟩, ⟨sA, sC⟩, ⟨mA, mC⟩, ⟨dA, dC⟩, ⟨nA, nC⟩, ⟨cA, cC⟩⟩ := a
 dsimp only [slV] at *
 generalize f_q ds = v at *
 go_enter func29, ntmps29
 go_wp2_with (go_at_call 11; refine (HC.out).mono ?_; rintro e w1 ⟨rfl, hb1⟩)
 exact d_s
theorem i_b {d : Dfs} (h : f_q d = 0) : d.zones.length ≤ 64 ∧ d.srcs.length ≤ 64 ∧ d.macs.length ≤ 64 ∧ d.mdls.length ≤ 64 ∧ d.snps.length ≤ 64 ∧ d.chks.length ≤ 64 := by
 unfold f_q at h
 obtain ⟨h1, h⟩ := b_g h
 obtain ⟨h2, h⟩ := b_g h
 obtain ⟨h3, h⟩ := b_g h
 obtain ⟨h4, h⟩ := b_g h
 obtain ⟨h5, h6⟩ := b_g h
 have k1 := c_1 h1
 have k2 := c_1 h2
 have k3 := c_1 h3
 have k4 := c_1 h4
 have k5 := c_1 h5
 have k6 := c_1 h6
 simp [Dfs.srcN, Dfs.mdlN, Dfs.snpN] at k1 k2 k3 k4 k5 k6
 exact ⟨k1, k2, k3, k4, k5, k6⟩
theorem k_M (Bm : Nat) (m : Mdu) (u : Pl) (a : DAdr) (w : World) (hB : h_i w Bm m u a) (h : m.defs.Sl w a) (hz : f_q m.defs = 0) : b_8 w 30 #[a_f Bm] (a_b (m.defs.names.any b_e = true) 4) := by
 refine ⟨fun args W => by kernel_rfl, fun W hW2 => ?_⟩
 refine e_T ?_; intro hh
 obtain ⟨k1, k2, k3, k4, k5, k6⟩ := i_b hz
 have HC := a_2 (e_F m.defs a W (h.below hW2) k1 k2 k3 k4 k5 k6)
 have HE := a_2 (show a_b (m.defs.names.any b_e = true) 4 = if m.defs.names.any b_e = true then 4 else 0 from rfl)
 refine q_R ?_; intro f0 f1 f2 f3 f4 f5 f6 f7
 clear hW2 hh hB h hz k1 k2 k3 k4 k5 k6
 generalize a_b (m.defs.names.any b_e = true) 4 = v at *
 generalize m.defs.names.any b_e = z at *
 obtain ⟨nm, us, ds⟩ := m
 obtain ⟨uA, uC⟩ := u
 obtain ⟨⟨zA, zC⟩, ⟨sA, sC⟩, ⟨mA, mC⟩, ⟨dA, dC⟩, ⟨nA, nC⟩, ⟨cA, cC⟩⟩ := a
 dsimp only [slV] at *
 cases z
 all_goals
  go_enter func30, ntmps30
  go_wp2_with (first
   | (go_at_call 31; refine (HC.out).mono ?_; rintro e w1 ⟨rfl, hb1⟩)
   | (go_at_call 24; refine (a_8 _ _ _).mono ?_; rintro e w' ⟨rfl, rfl⟩))
  exact m_o
set_option maxRecDepth 100000
theorem m_4 (B0 Bi Bm K : Nat) (A : Option Addr) (c : Nat) (ms : List Mdu) (i : Nat) (m : Mdu) (u : Pl) (a : DAdr) (w V : World) (hb : Below w.heap.size w V) (hV : PjV w) (h0 : V.heap[B0]? = some (.cells #[.slice A ms.length c] 22)) (hI : V.heap[Bi]? = some (.cells #[.int .i64 i] 3)) (hB : h_i V Bm m u a)
  (hK : V.heap[K]? = some (.cells #[.func (.func 21) #[] #[a_f Bm], .func (.func 23) #[] #[a_f B0, a_f Bi, a_f Bm], .func (.func 27) #[] #[a_f Bm, a_f B0], .func (.func 29) #[] #[a_f Bm], .func (.func 30) #[] #[a_f Bm]] 80)) (hM : c_b w A ms) (hi : i < ms.length) (hc : ms.length ≤ c) (hl : ms.length ≤ 16) (hu : b_9 w u m.uses) (hd : m.defs.Sl w a) (ho : m.ok) :
  Calls prog 20 #[.slice (some ⟨K, 0, none⟩) 5 5] V fun e w' => e = .returned (.int .i64 (n_b ms i m)) ∧ Below V.heap.size V w' := by
 have HF := a_U K 5 [⟨21, #[a_f Bm], a_F m.name⟩, ⟨23, #[a_f B0, a_f Bi, a_f Bm], a_b (m.name ∈ (c_9 ms).take i) 6⟩, ⟨27, #[a_f Bm, a_f B0], e_B (c_9 ms) m⟩, ⟨29, #[a_f Bm], f_q m.defs⟩, ⟨30, #[a_f Bm], a_b (m.defs.names.any b_e = true) 4⟩] V (a_6 hK) (show (5 : Nat) ≤ 10 from by decide)
  (fun j h => by
   have h9 : j < 5 := h
   match j, h9 with
   | 0, _ => exact a_0 hK 0
   | 1, _ => exact a_0 hK 1
   | 2, _ => exact a_0 hK 2
   | 3, _ => exact a_0 hK 3
   | 4, _ => exact a_0 hK 4)
  (fun j h args W => by
   have h9 : j < 5 := h
   match j, h9 with
   | 0, _ => exact (show (callFunc 21 args).run prog W = .ok (.enter 21 args) W by kernel_rfl)
   | 1, _ => exact (show (callFunc 23 args).run prog W = .ok (.enter 23 args) W by kernel_rfl)
   | 2, _ => exact (show (callFunc 27 args).run prog W = .ok (.enter 27 args) W by kernel_rfl)
   | 3, _ => exact (show (callFunc 29 args).run prog W = .ok (.enter 29 args) W by kernel_rfl)
   | 4, _ => exact (show (callFunc 30 args).run prog W = .ok (.enter 30 args) W by kernel_rfl))
  (fun j h hz => by
   have h9 : j < 5 := h
   match j, h9 with
   | 0, _ => exact l_1 Bm m u a V hB (hV.words.below hb)
   | 1, _ => exact k_Q B0 Bi Bm A c ms i m u a V h0 hI hB (a_l.below f_g.kept hM hb) hi hc hl
   | 2, _ => exact l_q B0 Bm A c ms m u a V h0 hB (a_l.below f_g.kept hM hb) hl (hu.below hb) ho.uses
   | 3, _ => exact k_J Bm m u a V hB (hV.below hb) (hd.below hb) ho.defs
   | 4, _ => exact k_M Bm m u a V hB (hd.below hb) (show f_q m.defs = 0 from hz 3 o_))
 rw [show a_o (fun j => (([⟨21, #[a_f Bm], a_F m.name⟩, ⟨23, #[a_f B0, a_f Bi, a_f Bm], a_b (m.name ∈ (c_9 ms).take i) 6⟩, ⟨27, #[a_f Bm, a_f B0], e_B (c_9 ms) m⟩, ⟨29, #[a_f Bm], f_q m.defs⟩, ⟨30, #[a_f Bm], a_b (m.defs.names.any b_e = true) 4⟩] : List Thk).map Thk.v).getD j 0) ([⟨21, #[a_f Bm], a_F m.name⟩, ⟨23, #[a_f B0, a_f Bi, a_f Bm], a_b (m.name ∈ (c_9 ms).take i) 6⟩, ⟨27, #[a_f Bm, a_f B0], e_B (c_9 ms) m⟩, ⟨29, #[a_f Bm], f_q m.defs⟩, ⟨30, #[a_f Bm], a_b (m.defs.names.any b_e = true) 4⟩] : List Thk).length = n_b ms i m from (b_s [a_F m.name, a_b (m.name ∈ (c_9 ms).take i) 6, e_B (c_9 ms) m, f_q m.defs, a_b (m.defs.names.any b_e = true) 4]).trans (by unfold n_b; simp only [d_m, j_C])] at HF
 exact HF
def k_P (ms : List Mdu) (i : Nat) : Int := match ms[i]? with
 | some m => n_b ms i m
 | none => 0
set_option maxRecDepth 512
theorem l_C {ms : List Mdu} {i : Nat} (h : i < ms.length) : k_P ms i = n_b ms i ms[i] := by
 unfold k_P; rw [List.getElem?_eq_getElem h]
set_option maxRecDepth 100000
theorem e_8 (A : Option Addr) (ms : List Mdu) (c : Nat) (w : World) (hV : PjV w) (hM : c_b w A ms) (hc : ms.length ≤ c) (hl : ms.length ≤ 8796093022208) (hk : g_O ms) :
  Calls prog 9 #[.slice A ms.length c] w fun e w' => e = .returned (.int .i64 (e_A ms)) ∧ Below w.heap.size w w' := by
 by_cases h16 : 16 < ms.length
 ·have HE := a_2 (show e_A ms = 2 from by unfold e_A; rw [if_pos h16])
  go_enter func9, ntmps9
  go_wp2
  exact n_j
 have HE := a_2 (show e_A ms = a_o (k_P ms) ms.length from by unfold e_A; rw [if_neg h16]; rfl)
 have HV := a_2 hV
 have HM := a_2 hM
 have HK := a_2 hk
 clear hV hM hk
 have hbox : Below (w.heap.size + 1) (w.alloc (.cells #[.slice A ms.length c] 22)) (w.alloc (.cells #[.slice A ms.length c] 22)) := b_ _ _
 go_enter func9, ntmps9
 go_wp2
 go_loopw [11] (fun i wr => ∃ k : Nat, k ≤ ms.length ∧ i = .int .i64 k ∧ Hid (∀ j, j < k → k_P ms j = 0) ∧ Below (w.heap.size + 1) (w.alloc (.cells #[.slice A ms.length c] 22)) wr) (fun i _ => ms.length - (intOf i).toNat)
 case atStart => exact ⟨0, o_, rfl, fun j hj => absurd hj (Nat.not_lt_zero _), hbox⟩
 case round =>
  obtain ⟨k, hk, rfl, HZ, hbx⟩ := hrel
  have hbel := a_5 hbx
  have hc2 := hc
  by_cases hlt : k < ms.length
  ·rcases HM.out with e | ⟨g, off, hA, hg, hc⟩
   ·exact absurd hlt e_
   obtain ⟨vs, hC, hcs⟩ := hc k hlt; obtain ⟨u, a, hu, hd, rfl⟩ := hC; have hcw := hcs.below hg hbel; have HT := a_2 (l_C hlt); have HF := a_2 (fun x (e : k_P ms k = x) (hx : x ≠ 0) => (HE.out.trans (a_q HZ.out (by rw [e]; exact hx) hlt)).trans e); have HN := a_2 (fun (e : k_P ms k = 0) => a_T HZ.out e); have h0 := a_y hbx (Nat.lt_succ_self _); refine r_I ?_; intro hok e0 e1 e2 e3 e4 e5 e6 e7; have HFr := a_2 (m_4 w.heap.size wr.heap.size (wr.heap.size + 1) (wr.heap.size + 2) A c ms k ms[k] u a w (((wr.alloc (.cells #[.int .i64 k] 3)).alloc (.cells #[str ms[k].name, slV u ms[k].uses.length, slV a.z ms[k].defs.zones.length, slV a.s ms[k].defs.srcs.length, slV a.m ms[k].defs.macs.length, slV a.d ms[k].defs.mdls.length, slV a.n ms[k].defs.snps.length, slV a.c ms[k].defs.chks.length] 36)).alloc (.cells #[.func (.func 21) #[] #[a_f (wr.heap.size + 1)], .func (.func 23) #[] #[a_f w.heap.size, a_f wr.heap.size, a_f (wr.heap.size + 1)], .func (.func 27) #[] #[a_f (wr.heap.size + 1), a_f w.heap.size], .func (.func 29) #[] #[a_f (wr.heap.size + 1)], .func (.func 30) #[] #[a_f (wr.heap.size + 1)]] 80)) (a_9 zX hbel) HV.out (a_K (a_K (a_K h0))) (a_K (a_K (heap_alloc_new _ _))) (a_K (a_M _ _ _ s_)) (a_M _ _ _ s_) HM.out hlt hc2 o_ hu hd hok); have hfin : Below wr.heap.size wr (((wr.alloc (.cells #[.int .i64 k] 3)).alloc (.cells #[str ms[k].name, slV u ms[k].uses.length, slV a.z ms[k].defs.zones.length, slV a.s ms[k].defs.srcs.length, slV a.m ms[k].defs.macs.length, slV a.d ms[k].defs.mdls.length, slV a.n ms[k].defs.snps.length, slV a.c ms[k].defs.chks.length] 36)).alloc (.cells #[.func (.func 21) #[] #[a_f (wr.heap.size + 1)], .func (.func 23) #[] #[a_f w.heap.size, a_f wr.heap.size, a_f (wr.heap.size + 1)], .func (.func 27) #[] #[a_f (wr.heap.size + 1), a_f w.heap.size], .func (.func 29) #[] #[a_f (wr.heap.size + 1)], .func (.func 30) #[] #[a_f (wr.heap.size + 1)]] 80)) := zX; have hB0 : wr.cell? ⟨w.heap.size, 0, none⟩ = some (.slice A ms.length c) := a_0 h0 0; have HFin := a_2 hfin; subst hA; clear hc hcs hcw hu hd hok h0 hfin
   dsimp only [slV] at *
   generalize n_b ms k ms[k] = v at *; generalize ms[k].name = t0 at *; generalize ms[k].uses.length = t1 at *; generalize ms[k].defs.zones.length = t2 at *; generalize ms[k].defs.srcs.length = t3 at *; generalize ms[k].defs.macs.length = t4 at *; generalize ms[k].defs.mdls.length = t5 at *; generalize ms[k].defs.snps.length = t6 at *; generalize ms[k].defs.chks.length = t7 at *
   by_cases hv : v = 0
   ·subst hv
    have HR := a_2 (HN.out HT.out); clear HT HF HN
    go_wp2_with (go_at_call 20; refine (HFr.out).mono ?_; rintro e w1 ⟨rfl, hb1⟩)
    exact ⟨⟨k + 1, o_, t_, HR, a_1 hbx s_ (a_9 hb1 HFin.out)⟩, w_⟩
   ·have hvb : (v != 0) = true := by simpa using hv
    have HR := a_2 (HF.out v HT.out hv); clear HT HF HN hv
    go_wp2_with (go_at_call 20; refine (HFr.out).mono ?_; rintro e w1 ⟨rfl, hb1⟩)
    go_ret
    exact ⟨a_d HR.out.symm, a_9 (a_9 hb1 HFin.out) hbel⟩
  ·obtain rfl : k = ms.length := by omega
   refine i_2 ?_; intro HR
   go_wp2
   exact i_N
end Go.Proofs.YtnpjibaolicbmaaGreatDoor
