/- Parts of the proof. -/
import Derived.Test.YtmbeeefkpgfgmaaGreatDoorPp27
set_option linter.unusedVariables false
set_option linter.unusedSimpArgs false
set_option maxHeartbeats 8000000
namespace Go.Proofs.YtmbeeefkpgfgmaaGreatDoor
open Go.Proofs.Tryz
section
open Go.RowKit Go.WideMaps Go.Maps
def n_4 (ts : List Tok) (P : Nat) (w : World) : Nat := match w.cell? ⟨P, 1, none⟩, w.cell? ⟨P, 2, none⟩ with
 | some (.int _ i), some (.int _ e) => if e = 0 then ts.length - i.toNat + 1 else 0
 | _, _ => 0
theorem o_k {W : World} {P cc : Nat} {A : Option Addr} {ts : List Tok} {s : QSt} (h : QPt QT W P A ts cc s) : n_4 ts P W = if s.e = 0 then ts.length - s.i + 1 else 0 := by
 unfold n_4
 rw [h.cells.2.1, h.cells.2.2]
 simp
set_option maxRecDepth 100000
theorem r_I (W : World) (P : Nat) (A : Option Addr) (ts : List Tok) (cc : Nat) (s : QSt) (hv : a_O ts = true) (hS : QPt QT W P A ts cc s) (hi : s.i < ts.length) (hl' : ts.length + 1 ≤ 1000000) :
  Calls prog 73 #[a_G P] W fun e w' => (∃ B c az, e = .returned (.slice B (a_w false ts s).1.length c) ∧ SRw W.heap.size w' (a_w false ts s).1 B c az) ∧ QPost QT W P A ts cc (a_w false ts s).2 w' := by
 have hl : ts.length ≤ 1000000 := by omega
 have hP := hS.lt
 have hqn : ∀ w : World, (binOp .eql 135 .nilFunc .nilFunc).run prog w = .ok (.bool true) w := fun _ => by kernel_rfl
 have hqf : ∀ (K : Nat) (f c : Array Value) (w : World), (binOp .eql 135 (.func (.func K) f c) .nilFunc).run prog w = .ok (.bool false) w := fun _ _ _ _ => by kernel_rfl
 obtain ⟨i0, hi0, hz0, hz1, hz2⟩ := info_parts Tryz.info_step
 have HWo := a_0 (n_9 W P A ts cc s hS hi hl d_7)
 have hi1 := (a_H hv s (k := 1) d_ d_7).lt hi
 have HN := a_0 (fun (W' : World) (h : QPt QT W' P A ts cc (a_c ts s 1 d_7)) => g_F W' P A ts cc _ h hi1 hl)
 have hi2 := (a_V hv (a_c ts s 1 d_7)).lt hi1
 have HStart := a_0 (show ∃ G, ts.length < (a_7 ts (a_c ts s 1 d_7)).2.i + G ∧ c_d false ts G [⟨0, (a_7 ts (a_c ts s 1 d_7)).1, [], [], [], []⟩] (a_7 ts (a_c ts s 1 d_7)).2 = a_w false ts s from ⟨ts.length + 1, o_, rfl⟩)
 generalize a_w false ts s = R at *
 generalize a_7 ts (a_c ts s 1 d_7) = r1 at *
 obtain ⟨x, s2⟩ := r1
 generalize a_c ts s 1 d_7 = s1 at *
 simp only at HN hi2 HStart
 have HSt := a_0 (fun (W' : World) (h : P < W'.heap.size) => r_d W' P h)
 clear hS hi hi1
 go_enter func73, ntmps73
 go_wp2_with fail
 refine HWo.out.mono ?_
 rintro e w1 ⟨rfl, hq1⟩
 refine s_3 ?_; intro HQ1 HG1
 clear hq1 HWo
 go_wp2_with fail
 refine (HN.out _ HQ1.out).mono ?_
 rintro e w2 ⟨rfl, hq2⟩
 have HQ2 := a_0 hq2.pt
 have HG2 := a_0 (HG1.out.trans hq2.gr)
 have hz2' := HG2.out.size
 clear hq2 HQ1 HG1 HN
 obtain ⟨w3, hw3⟩ : ∃ w3, w3 = w2.alloc (.cells #[.int .i64 0, str x, .slice none 0 0, .slice none 0 0, .slice none 0 0, .slice none 0 0] 27) := ⟨_, rfl⟩
 have HR3 := a_0 (show SRw W.heap.size w3 [⟨0, x, [], [], [], []⟩] (some ⟨w2.heap.size, 0, none⟩) 1 [⟨none, 0, none, 0, none, 0, none, 0⟩] from by
  rw [hw3]
  exact SRw.one (x := ⟨0, x, [], [], [], []⟩) (a := ⟨none, 0, none, 0, none, 0, none, 0⟩) hz2' (fun v _ => ⟨.inl rfl, .inl rfl, .inl rfl, .inl rfl, l_ _, l_ _, l_ _⟩))
 have HB3 := a_0 (show Below w2.heap.size w2 w3 from by rw [hw3]; exact Below.alloc (b_ _ w2) (l_ _) _)
 have HQ3 := a_0 (HQ2.out.below HB3.out)
 have hP3 := HQ3.out.lt
 have HW3 := a_0 hw3
 clear hw3
 go_wp2_with fail
 rw [← HW3.out]
 refine (HSt.out w3 hP3).mono ?_
 rintro e w4 ⟨Bm, b8, b9, nm, D, rfl, hb4, m1, m2, m3, m4, m5, m6, m7, m8, m9, m10, m11⟩
 have HM4 := a_0 (show MpC P w3.heap.size b8 b9 Bm nm D w4 from ⟨o_, o_, o_, o_, m4, m5, m6, m10, m11⟩)
 have HQ4 := a_0 (HQ3.out.below hb4)
 have HR4 := a_0 (HR3.out.below hb4)
 have HG4 := a_0 ((HG2.out.trans (a_1 HB3.out)).trans (a_1 hb4))
 clear hb4 m1 m2 m3 m4 m5 m6 m7 m8 m9 m10 m11 HQ3 HR3 HB3 HG2 HQ2 HSt HW3 hP3
 generalize w3.heap.size = Bp at *
 go_wp2_with fail
 go_loopw [3] (fun m wr => ∃ (l : List Stp) (B : Option Addr) (c : Nat) (az : List Adr) (t : QSt), m = .slice B l.length c ∧ Hid (QPt QT wr P A ts cc t) ∧ Hid (MpC P Bp b8 b9 Bm nm D wr) ∧ Hid (SRw W.heap.size wr l B c az) ∧ Hid (W.grownBy wr (some P)) ∧ t.i < ts.length ∧ l.length ≤ ts.length ∧ (t.e = 0 → l.length ≤ t.i + 1) ∧ Hid (∃ G, (t.e = 0 → ts.length < t.i + G) ∧ c_d false ts G l t = R)) (fun m wr => n_4 ts P wr)
 case atStart => exact ⟨_, _, _, _, s2, rfl, HQ4, HM4, HR4, HG4, hi2, m_, fun _ => by simp, a_0 (by obtain ⟨G, h1, h2⟩ := HStart.out; exact ⟨G, fun _ => h1, h2⟩)⟩
 case round =>
  clear HQ4 HM4 HR4 HG4 hi2 HStart
  obtain ⟨l, B, c, az, t, rfl, HS, HM, HR, HG, hi, hlt, hln, HE⟩ := hrel
  have HSk := a_0 (h_Z wr P A ts cc t HS.out hi hl 5 q_D)
  have hms := o_k HS.out
  obtain ⟨G, hGl, hE⟩ := HE.out
  by_cases hb : isT ts t 5 q_D = true
  ·have he0 := (b_3 hb).1
   have hGl := hGl he0; have hln := hln he0; rw [if_pos he0] at hms
   cases G with
   | zero => omega
   | succ G =>
   unfold c_d at hE; rw [if_pos hb] at hE; rw [hb] at HSk; simp only [↓reduceIte] at HSk; have hnx := b_e hv hi d_ hb; obtain ⟨j, hj⟩ : ∃ j, j = t.i + 1 := ⟨_, rfl⟩; rw [show t.i + 2 = j + 1 from by omega, ← hj] at hE; rw [← hj] at HSk hnx; have hjt : t.i < j := by omega
   have HJ := a_0 hj; clear hj; have hti := d_d hv hnx; have htx : (tk ts j).text.length ≤ maxLen := by unfold maxLen; omega
   have hnn := fun (h : a_e ts ⟨j, 0⟩ = true) => b_r hv (s := ⟨j, 0⟩) hnx h; have HNx := a_0 (fun (W' : World) (h : QPt QT W' P A ts cc ⟨j, 0⟩) => show Calls prog 113 #[.pointer (some ⟨P, 0, none⟩)] W' (fun e' w' => e' = .returned (.agg #[.int .i64 (tk ts j).kind, str (tk ts j).text, .int .i64 (tk ts j).num, .int .i64 (tk ts j).off]) ∧ Below W'.heap.size W' w') from k_n W' P A ts cc _ h hnx hl); have HNm := a_0 (fun (W' : World) (h : QPt QT W' P A ts cc ⟨j, 0⟩) => e_r W' P A ts cc _ h hnx hl); have HFl := a_0 (fun (W' : World) (h : QPt QT W' P A ts cc ⟨j, 0⟩) => show Calls prog 115 #[.pointer (some ⟨P, 0, none⟩), .int .i64 3] W' (fun e' w' => e' = .returned (.tuple #[]) ∧ QPost QT W' P A ts cc ⟨j, 3⟩ w') from g_C W' P A ts cc _ h 3); have HLk := a_0 (fun (W' : World) (h : MpC P Bp b8 b9 Bm nm D W') => h.look underlying132 k_ htx); have hkd : a_e ts ⟨j, 0⟩ = ((tk ts j).kind == 1) := by unfold a_e; simp
   rw [hkd] at HNm hnn; clear htx hti hkd; have hsw := e_8 (tk ts j).text; generalize (tk ts j).text = y at *; generalize (tk ts j).kind = kd at *; generalize (tk ts j).num = tn at *; generalize (tk ts j).off = tf at *; generalize b_f y = n at *; have f1 := n_s; clear HE
   go_wp2_with fail
   refine HSk.out.mono ?_; rintro e w5 ⟨rfl, hq5⟩; have HQ5 := a_0 hq5.pt; have HM5 := a_0 (HM.out.keep hq5.gr); have HR5 := a_0 (HR.out.step HS.out hq5.gr hP); have HG5 := a_0 (HG.out.trans hq5.gr); clear hq5 HSk HS HM HR HG
   go_wp2_with fail
   refine (HNx.out _ HQ5.out).mono ?_; rintro e w6 ⟨rfl, hb6⟩; have HQ6 := a_0 (HQ5.out.below hb6); have HM6 := a_0 (HM5.out.below hb6); have HR6 := a_0 (HR5.out.below hb6); have HG6 := a_0 (HG5.out.trans (a_1 hb6)); have hlk := HLk.out w6 HM6.out; clear hb6 HNx HQ5 HM5 HR5 HG5 HLk
   by_cases hk : kd = 1
   ·subst hk
    simp only [beq_self_eq_true] at HNm hnn; have hnn := hnn s_
    by_cases hn0 : n = 0
    ·subst hn0
     rw [if_neg s_] at hE; have HE2 := a_0 hE; clear hE hsw; rw [show fvQ P Bp b8 b9 0 = .nilFunc from rfl] at hlk
     go_wp2_with fail
     refine (HNm.out _ HQ6.out).mono ?_; rintro e w7 ⟨rfl, hb7⟩; have HQ7 := a_0 (HQ6.out.below hb7); have HR7 := a_0 (HR6.out.below hb7); have HG7 := a_0 (HG6.out.trans (a_1 hb7)); clear hb7 HNm HQ6 HM6 HR6 HG6 hlk
     go_wp2_with fail
     refine (HFl.out _ HQ7.out).mono ?_; rintro e w8 ⟨rfl, hq8⟩; have HR8 := a_0 (HR7.out.step HQ7.out hq8.gr hP); have HQ8 := a_0 (show QPost QT W P A ts cc ⟨j, 3⟩ w8 from ⟨hq8.pt, HG7.out.trans hq8.gr⟩); clear hq8 HFl HQ7 HR7 HG7
     go_wp2
     go_ret
     rw [← HE2.out]; exact ⟨⟨_, _, _, rfl, HR8.out⟩, HQ8.out⟩
    ·have hx : ∃ k : a_3, (k, n) ∈ b_o := by
      rcases hsw with h | ⟨k, h, _⟩
      ·exact absurd h hn0
      ·exact ⟨k, h⟩
     rw [if_pos ⟨rfl, hn0⟩] at hE; obtain ⟨K, first, cap, hfv, hfc, hcf, hcall⟩ := s_x hx P Bp b8 b9; rw [hfv] at hlk; have HCl := a_0 (fun (W' : World) h1 h2 => hcall W' A ts cc ⟨j + 1, 0⟩ Bm nm D hv hl h1 h2 hnn); have hbd := (k_Q hv o_ false n ⟨j + 1, 0⟩ hnn).2; clear hsw hx hcall hfv; generalize b_2 false ts n ⟨j + 1, 0⟩ = r at *; obtain ⟨sx, u⟩ := r; simp only at HCl hE hbd; have HE2 := a_0 hE; clear hE
     rcases hfc with rfl | rfl
     all_goals
      simp only [Array.empty_append, Array.append_empty, List.append_toArray] at HCl
      go_wp2_with fail
      refine (HNm.out _ HQ6.out).mono ?_; rintro e w7 ⟨rfl, hb7⟩; have hQ7 := HQ6.out.below hb7; obtain ⟨k0, k1, k2⟩ := hQ7.cells; have hf := hQ7.free; have hP7 := hQ7.lt; have g8 : w7.grownBy (w7.setCell ⟨P, 1, none⟩ (.int .i64 ((j + 1 : Nat) : Int))) (some P) := a_d (g_ w7 (some P)) 1 (.int .i64 ((j + 1 : Nat) : Int)); have HQ8 := a_0 (hQ7.setAt (j + 1)); have HM8 := a_0 ((HM6.out.below hb7).keep g8); have HR8 := a_0 ((HR6.out.below hb7).step hQ7 g8 hP); have HG8 := a_0 ((HG6.out.trans (a_1 hb7)).trans g8); clear hb7 hQ7 g8 HNm HQ6 HM6 HR6 HG6 hlk
      go_wp2_with fail
      refine (HCl.out _ HM8.out HQ8.out).mono ?_; rintro e w9 ⟨⟨a, rfl, hfx⟩, hq9⟩; have HQ9 := a_0 hq9.pt; have HM9 := a_0 (HM8.out.keep hq9.gr); have HR9 := a_0 (HR8.out.step HQ8.out hq9.gr hP); have HG9 := a_0 (HG8.out.trans hq9.gr); have hz9 := HG9.out.size; have HF9 := a_0 hfx; clear hq9 hfx HQ8 HM8 HR8 HG8 HCl k0 k1 k2 hf; have hP9 := HQ9.out.lt
      go_wp2_with (at_builtin; refine wpList_append_own _ rfl _ _ 22 rfl W.heap.size 27 i0 _ 6 120 underlying22 hi0 hz0 hz1 hz2 rfl d_ _ _ _ rfl (a_8 HR9.out.own zX) ⟨_, 0, none⟩ 1 1 [.int .i64 sx.op, str sx.src, .slice a.nA sx.names.length a.nC, .slice a.oA sx.others.length a.oC, .slice a.iA sx.items.length a.iC, .slice a.cA sx.cond.length a.cC] rfl rfl (by exact b_h (b_d s_)) c_ x_ o_ m_ ?_; intro v4 w10 o4 g4 _; obtain ⟨B4, n4, rfl⟩ := a_i o4; have hbx : Below w9.heap.size w9 _ := Below.alloc (b_ _ w9) (l_ _) (.cells #[.int .i64 sx.op, str sx.src, .slice a.nA sx.names.length a.nC, .slice a.oA sx.others.length a.oC, .slice a.iA sx.items.length a.iC, .slice a.cA sx.cond.length a.cC] 27); have hr := fun k e => ((HR9.out.below hbx).own.lt k e).1; have HR10 := a_0 (SRw.push (x := sx) (a := a) (HR9.out.below hbx) (HF9.out.keep (a_I.of_below hbx)) g4 o4); have HM10 := a_0 ((HM9.out.below hbx).row g4 (HR9.out.below hbx).own); have HQ10 := a_0 ((HQ9.out.below hbx).gr g4 (fun k e => by have := hr k e; omega)); have HG10 := a_0 ((HG9.out.trans (a_1 hbx)).andThen g4 (fun k e => .inl (hr k e))); clear o4 g4 hbx hr HQ9 HM9 HR9 HG9 HF9)
      refine ⟨⟨l ++ [sx], B4, n4, az ++ [a], u, s_, HQ10, HM10, HR10, HG10, hbd.lt hnn, m_, fun h0 => by have := (hbd.mono h0).2; simp at this ⊢; omega, a_0 ⟨G, fun h0 => by have := (hbd.mono h0).2; simp at this; omega, HE2.out⟩⟩, ?_⟩; rw [hms, o_k HQ10.out]
      split
      ·rename_i h0
       have := (hbd.mono h0).2
       simp at this
       omega
      ·omega
   ·rw [if_neg (by simp [hk])] at hE
    have HE2 := a_0 hE; have hkb : (kd == 1) = false := beq_eq_false_iff_ne.2 hk; rw [hkb] at HNm; clear hE hsw hnn hk hkb; generalize fvQ P Bp b8 b9 n = fv at *
    go_wp2_with fail
    refine (HNm.out _ HQ6.out).mono ?_; rintro e w7 ⟨rfl, hb7⟩; have HQ7 := a_0 (HQ6.out.below hb7); have HR7 := a_0 (HR6.out.below hb7); have HG7 := a_0 (HG6.out.trans (a_1 hb7)); clear hb7 HNm HQ6 HM6 HR6 HG6 hlk
    go_wp2_with fail
    refine (HFl.out _ HQ7.out).mono ?_; rintro e w8 ⟨rfl, hq8⟩; have HR8 := a_0 (HR7.out.step HQ7.out hq8.gr hP); have HQ8 := a_0 (show QPost QT W P A ts cc ⟨j, 3⟩ w8 from ⟨hq8.pt, HG7.out.trans hq8.gr⟩); clear hq8 HFl HQ7 HR7 HG7
    go_wp2
    go_ret
    rw [← HE2.out]; exact ⟨⟨_, _, _, rfl, HR8.out⟩, HQ8.out⟩
  ·have hbf : isT ts t 5 q_D = false := by simpa using hb
   have hE : (l, t) = R := by
    rw [← hE]
    cases G with
    | zero => rfl
    | succ G =>
     unfold c_d; rw [if_neg hb]
   rw [hbf] at HSk; simp only [Bool.false_eq_true, ↓reduceIte] at HSk; have HE2 := a_0 hE; clear HE hE
   go_wp2_with fail
   refine HSk.out.mono ?_; rintro e w5 ⟨rfl, hq5⟩; have HQ5 := a_0 (show QPost QT W P A ts cc t w5 from ⟨hq5.pt, HG.out.trans hq5.gr⟩); have HR5 := a_0 (HR.out.step HS.out hq5.gr hP); clear hq5 HSk HS HM HR HG
   go_wp2
   go_ret
   rw [← HE2.out]; exact ⟨⟨_, _, _, rfl, HR5.out⟩, HQ5.out⟩
end
section
open Go.RowKit
theorem d_s (W : World) (P : Nat) (A : Option Addr) (ts : List Tok) (c : Nat) (s : QSt) (hS : QPt QR W P A ts c s) (hi : s.i < ts.length) (hl : ts.length ≤ 1000000) (x : a_3) :
  Calls prog 119 #[.pointer (some ⟨P, 0, none⟩), .int .i64 0, str x] W (fun e' w' => e' = .returned (.bool (isT ts s 5 x)) ∧ Below W.heap.size W w') := by
 have h := o_o W P A ts c s hS 0 hi hl x
 rw [show (s.e == 0 && a_9 (tk ts (s.i + 0)) x) = isT ts s 5 x from (Bool.and_assoc _ _ _).symm] at h
 exact h
theorem d_H {T : TypeId} {W : World} {P cc : Nat} {A : Option Addr} {ts : List Tok} {s : QSt} (h : QPt T W P A ts cc s) : n_4 ts P W = if s.e = 0 then ts.length - s.i + 1 else 0 := by
 unfold n_4
 rw [h.cells.2.1, h.cells.2.2]
 simp
def e_H {α : Type} (ts : List Tok) (part : α → QSt → α × QSt) (G : Nat) (c : α) (s : QSt) : α × QSt := if isT ts s 5 b_t = true then d_1 ts part G c ⟨s.i + 1, 0⟩ else (c, s)
theorem d_k {α : Type} (ts : List Tok) (part : α → QSt → α × QSt) (G : Nat) (c : α) (s : QSt) : d_1 ts part (G + 1) c s = e_H ts part G (part c s).1 (part c s).2 := rfl
set_option maxRecDepth 100000
theorem j_y (W : World) (P : Nat) (A : Option Addr) (ts : List Tok) (cc : Nat) (s : QSt) (hv : a_O ts = true) (hS : QPt QR W P A ts cc s) (hi : s.i < ts.length) (hl : ts.length ≤ 1000000) :
  Calls prog 193 #[a_G P] W fun e w' => (∃ B n, e = .returned (.slice B (a_u true ts s).1.length n) ∧ w'.ownsRow W.heap.size 9 1 (.slice B (a_u true ts s).1.length n) (a_u true ts s).1.length ((a_u true ts s).1.map str)) ∧ QPost QR W P A ts cc (a_u true ts s).2 w' := by
 obtain ⟨i0, hi0, hz0, hz1, hz2⟩ := info_parts Tryz.info_txt
 have hP := hS.lt
 have HN := a_0 (c_V W P A ts cc s hS hi hl)
 have hi1 := (a_V hv s).lt hi
 have HStart := a_0 (show ∃ G, ((a_7 ts s).2.e = 0 → ts.length < (a_7 ts s).2.i + G + 1) ∧ e_H ts (f_J ts) G [(a_7 ts s).1] (a_7 ts s).2 = a_u true ts s from ⟨ts.length, fun _ => by omega, by unfold a_u a_z; rw [if_neg s_, d_k]; rfl⟩)
 generalize a_u true ts s = R at *
 generalize a_7 ts s = r1 at *
 obtain ⟨x, s1⟩ := r1
 simp only at HN hi1 HStart
 clear hS hi
 go_enter func193, ntmps193
 go_wp2_with fail
 refine HN.out.mono ?_
 rintro e w1 ⟨rfl, hq1⟩
 have hz1' := hq1.gr.size
 have HR1 := a_0 (show (w1.alloc (.cells #[str x] 9)).ownsRow W.heap.size 9 1 (.slice (some ⟨w1.heap.size, 0, none⟩) [x].length 1) [x].length ([x].map str) from by
  have := d_o (e := 9) w1 (base := W.heap.size) (size := 1) (n := 1) (cur := #[str x]) hz1' s_ d_
  simpa using this)
 have HB1 := a_0 (show Below w1.heap.size w1 (w1.alloc (.cells #[str x] 9)) from Below.alloc (b_ _ w1) (l_ _) _)
 have HQ1 := a_0 (hq1.pt.below HB1.out)
 have HG1 := a_0 (hq1.gr.trans (a_1 HB1.out))
 clear hq1 HN
 go_wp2_with fail
 go_loopw [3] (fun m wr => ∃ (l : List a_3) (B : Option Addr) (n : Nat) (t : QSt), m = .slice B l.length n ∧ Hid (QPt QR wr P A ts cc t) ∧ Hid (wr.ownsRow W.heap.size 9 1 (.slice B l.length n) l.length (l.map str)) ∧ Hid (W.grownBy wr (some P)) ∧ t.i < ts.length ∧ l.length ≤ ts.length + 1 ∧ (t.e = 0 → l.length ≤ t.i + 1) ∧ Hid (∃ G, (t.e = 0 → ts.length < t.i + G + 1) ∧ e_H ts (f_J ts) G l t = R)) (fun m wr => n_4 ts P wr)
 case atStart => exact ⟨[x], _, _, s1, rfl, HQ1, HR1, HG1, hi1, s_, fun _ => by simp, HStart⟩
 case round =>
  clear HQ1 HR1 HG1 HB1 hi1 HStart
  obtain ⟨l, B, n, t, rfl, HS, HR, HG, hi, hlt, hln, HE⟩ := hrel
  have HIs := a_0 (d_s wr P A ts cc t HS.out hi hl b_t)
  have hms := d_H HS.out
  obtain ⟨G, hGl, hE⟩ := HE.out
  by_cases hb : isT ts t 5 b_t = true
  ·have he0 := (b_3 hb).1
   have hGl := hGl he0; have hln := hln he0; rw [if_pos he0] at hms; have hnx := b_e hv hi d_ hb
   cases G with
   | zero => omega
   | succ G =>
   unfold e_H at hE; rw [if_pos hb, d_k] at hE; rw [hb] at HIs; have HN := a_0 (fun (W' : World) (h : QPt QR W' P A ts cc ⟨t.i + 1, 0⟩) => c_V W' P A ts cc ⟨t.i + 1, 0⟩ h hnx hl); have hg := a_V hv ⟨t.i + 1, 0⟩; have hE2 : e_H ts (f_J ts) G (l ++ [(a_7 ts ⟨t.i + 1, 0⟩).1]) (a_7 ts ⟨t.i + 1, 0⟩).2 = R := hE; have HE2 := a_0 hE2; clear hE hE2 HE; generalize a_7 ts ⟨t.i + 1, 0⟩ = r2 at *; obtain ⟨y, u⟩ := r2; simp only at HN HE2 hg
   go_wp2_with fail
   refine HIs.out.mono ?_; rintro e w2 ⟨rfl, hb2⟩; refine v_r ?_; intro hQ2 hQ2e k0 k1 k2 hf hP2 g3 HQ3; have HR3 := a_0 (a_v (a_8 HR.out hb2) g3 hP); have HG3 := a_0 ((HG.out.trans (a_1 hb2)).trans g3); clear hQ2 hQ2e g3 hb2 HS HR HG HIs
   go_wp2_with fail
   refine (HN.out _ HQ3.out).mono ?_; rintro e w4 ⟨rfl, hq4⟩; have HQ4 := a_0 hq4.pt; have HR4 := a_0 (a_v HR3.out hq4.gr hP); have HG4 := a_0 (HG3.out.trans hq4.gr); have hz4 := HG4.out.size; have hP4 := hq4.pt.lt; clear hq4 HQ3 HR3 HG3 HN k0 k1 k2 hf
   go_wp2_with (at_builtin; refine wpList_append_own _ rfl _ _ 23 rfl W.heap.size 9 i0 _ 1 16 underlying23 hi0 hz0 hz1 hz2 rfl d_ _ _ _ rfl (a_8 HR4.out zX) ⟨_, 0, none⟩ 1 1 [str y] rfl rfl (by exact d_L (b_d s_)) c_ x_ o_ m_ ?_; intro v4 w5 o4 g4 _; obtain ⟨B4, n4, rfl⟩ := a_i o4; have hbx : Below w4.heap.size w4 _ := Below.alloc (b_ _ w4) (l_ _) (.cells #[str y] 9); have hr := fun k e => ((a_8 HR4.out hbx).lt k e).1; have HR5 := a_0 (show w5.ownsRow W.heap.size 9 1 (.slice B4 (l ++ [y]).length n4) (l ++ [y]).length ((l ++ [y]).map str) from by simpa using o4); have HQ5 := a_0 ((HQ4.out.below hbx).gr g4 (fun k e => by have := hr k e; omega)); have HG5 := a_0 ((HG4.out.trans (a_1 hbx)).andThen g4 (fun k e => .inl (hr k e))); clear o4 g4 hbx hr HQ4 HR4 HG4)
   refine ⟨⟨l ++ [y], B4, n4, u, s_, HQ5, HR5, HG5, hg.lt hnx, m_, fun h0 => by have := (hg.mono h0).2; simp at this ⊢; omega, a_0 ⟨G, fun h0 => by have := (hg.mono h0).2; simp at this; omega, HE2.out⟩⟩, ?_⟩; rw [hms, d_H HQ5.out]
   split
   ·rename_i h0
    have := (hg.mono h0).2
    simp at this
    omega
   ·omega
  ·have hbf : isT ts t 5 b_t = false := by simpa using hb
   have hE : (l, t) = R := by
    rw [← hE]; unfold e_H; rw [if_neg hb]
   rw [hbf] at HIs; have HE2 := a_0 hE; clear HE hE
   go_wp2_with fail
   refine HIs.out.mono ?_; rintro e w2 ⟨rfl, hb2⟩; have HQ2 := a_0 (show QPost QR W P A ts cc t w2 from ⟨HS.out.below hb2, HG.out.trans (a_1 hb2)⟩); have HR2 := a_0 (a_8 HR.out hb2); clear hb2 HIs HS HR HG
   go_wp2
   go_ret
   rw [← HE2.out]; exact ⟨⟨_, _, rfl, HR2.out⟩, HQ2.out⟩
end
end Go.Proofs.YtmbeeefkpgfgmaaGreatDoor
