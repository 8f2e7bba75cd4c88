/- Parts of the proof. -/
import Derived.Test.YtmbeeefkpgfgmaaGreatDoorPp31
import Derived.Test.YtmbeeefkpgfgmaaGreatDoorPp28
set_option linter.unusedVariables false
set_option linter.unusedSimpArgs false
set_option maxHeartbeats 8000000
namespace Go.Proofs.YtmbeeefkpgfgmaaGreatDoor
open Go.Proofs.Tryz
open Go.RowKit
theorem r_g (ts : List Tok) (a : Int) (h : (paS ts a).2.2 ≠ 0) : (paS ts a).1 = [] := by
 unfold paS at h ⊢
 repeat' split
 all_goals first
  | rfl
  | (simp_all; done)
set_option maxRecDepth 100000
theorem q_L (W : World) (P : Nat) (A : Option Addr) (ts : List Tok) (c : Nat) (s : QSt) (hv : a_O ts = true) (hS : QPt QR W P A ts c s) (hi : s.i < ts.length) (hl : ts.length ≤ 1000000) :
  Calls prog 191 #[.pointer (some ⟨P, 0, none⟩)] W fun e w' => (∃ B n, e = .returned (.slice B (b_J ts s).1.length n) ∧ w'.ownsRow W.heap.size 116 6 (.slice B (b_J ts s).1.length n) (b_J ts s).1.length (a_a (b_J ts s).1)) ∧ QPost QR W P A ts c (b_J ts s).2 w' := by
 refine q_M ?_; intro c0 c1 c2 hP
 by_cases he : s.e = 0
 ·obtain ⟨j, hj, hjl, _, _, _⟩ := h_8 hv hi
  refine v_N ?_; intro HX
  have HNil := a_0 (r_g ts s.i)
  have hsh : ∀ j (h : j < ts.length), ts[j].text.length ≤ maxLen := fun j h => by
   have := d_d hv h; rw [l_n h] at this; unfold maxLen; omega
  have HPa := a_0 (fun (W' : World) (hb : Below W.heap.size W W') => h_0 A ts c s.i W' (hS.glb _ (hb.mono (Nat.le_of_lt hP))) (n_T (hS.below hb).tok (hS.below hb).lt) o_ hsh)
  have HFl := a_0 (fun (W' : World) (j : Nat) (x : Int) (h : QPt QR W' P A ts c ⟨j, 0⟩) => show Calls prog 189 #[.pointer (some ⟨P, 0, none⟩), .int .i64 x] W' (fun e' w' => e' = .returned (.tuple #[]) ∧ QPost QR W' P A ts c ⟨j, x⟩ w') from e_4 W' P A ts c ⟨j, 0⟩ h x)
  have HS := a_0 hS
  rw [he] at c2
  have HE := a_0 he
  clear hS hsh hv he
  rw [HX.out]
  clear HX
  generalize hr : paS ts s.i = r at *
  obtain ⟨es, a, x⟩ := r
  simp only at hj HNil ⊢
  subst hj
  clear hr
  obtain ⟨si, se⟩ := s
  simp only at c1 c2 HPa HE
  obtain rfl : se = 0 := HE.out
  by_cases hx : x = 0
  ·subst hx
   clear HNil
   go_enter func191, ntmps191
   go_upto_region 3 with fail
   (go_region_with (go_at_call 243; refine (HPa.out _ zX).mono ?_; rintro e w1 ⟨⟨B, n, rfl, ho⟩, hb1⟩; have hb := (show Below W.heap.size W _ from zX).trans (hb1.mono s_); have HO := a_0 (a_Z (b2 := W.heap.size) ho s_); have HS1 := a_0 (HS.out.below hb); clear ho hb1 c0 c1 c2))
   all_goals
    obtain ⟨k0, k1, k2⟩ := HS1.out.cells; have hf := HS1.out.free; have hP1 := HS1.out.lt; have HS2 := a_0 (HS1.out.setAt j); have HO2 := a_0 (a_v HO.out (a_d (g_ _ (some P)) 1 (.int .i64 (j : Int))) o_); have HG2 := a_0 (a_d (b := P) (a_1 hb) 1 (.int .i64 (j : Int)))
    go_wp2
    go_ret
    exact ⟨⟨B, n, rfl, HO2.out⟩, HS2.out, HG2.out⟩
  ·obtain rfl : es = [] := HNil.out hx
   have hxn : (x != 0) = true := by simpa using hx
   clear HNil hx
   go_enter func191, ntmps191
   go_upto_region 3 with fail
   (go_region_with (go_at_call 243; refine (HPa.out _ zX).mono ?_; rintro e w1 ⟨⟨B, n, rfl, ho⟩, hb1⟩; have hb := (show Below W.heap.size W _ from zX).trans (hb1.mono s_); have HS1 := a_0 (HS.out.below hb); clear ho hb1 c0 c1 c2))
   all_goals
    obtain ⟨k0, k1, k2⟩ := HS1.out.cells; have hf := HS1.out.free; have hP1 := HS1.out.lt; have HS2 := a_0 (HS1.out.setAt j); have HG2 := a_0 (a_d (b := P) (a_1 hb) 1 (.int .i64 (j : Int)))
    go_wp2_with fail
    refine (HFl.out _ j x HS2.out).mono ?_; rintro e w3 ⟨rfl, hq3⟩; have HQ3 := a_0 (show QPost QR W P A ts c ⟨j, x⟩ w3 from ⟨hq3.pt, HG2.out.trans hq3.gr⟩); clear hq3
    go_wp2
    go_ret
    exact ⟨⟨none, 0, rfl, a_o _ _ _ _⟩, HQ3.out⟩
 ·have HX := a_0 (show b_J ts s = ([], s) from by unfold b_J; rw [if_pos he])
  have hb : (s.e != 0) = true := by simpa using he
  have HS := a_0 hS
  rw [HX.out]
  clear HX hS he
  go_enter func191, ntmps191
  go_wp2
  go_ret
  exact ⟨⟨none, 0, rfl, a_o _ _ _ _⟩, HS.out, g_ _ _⟩
set_option maxRecDepth 512
structure ItR (base : Nat) (W : World) (c : List It) (I : Option Addr) (n : Nat) (es : List (Option Addr × Nat)) : Prop where
 own : W.ownsRow base 61 5 (.slice I c.length n) c.length (b_T c es)
 len : es.length = c.length
 firm : b_b [ 116 ] (fun v => ∀ i (h : i < c.length) (h' : i < es.length), c_L v es[i].1 c[i].expr) W
section
variable {T : TypeId} {base P n n' cc ec : Nat} {W w' : World} {c : List It} {I B' E A : Option Addr} {es : List (Option Addr × Nat)} {x : It} {ts : List Tok} {s : QSt}
theorem a_S {l : List TypeId} (hS : QPt T W P A ts cc s) (hg : W.grownBy w' (some P)) (hl : T ∉ l) : a_I l W w' :=
 a_I.of_grown hg fun k hk => by injection hk with hk; subst hk; exact ⟨_, _, _, hS.blk, hl⟩
theorem ItR.step (h : ItR base W c I n es) (hS : QPt QR W P A ts cc s) (hg : W.grownBy w' (some P)) (hP : P < base) : ItR base w' c I n es :=
 ⟨a_v h.own hg hP, h.len, h.firm.keep (a_S hS hg d_)⟩
theorem ItR.below (h : ItR base W c I n es) (hb : Below W.heap.size W w') : ItR base w' c I n es := ⟨a_8 h.own hb, h.len, h.firm.keep (a_I.of_below hb)⟩
theorem ItR.push (h : ItR base W c I n es) (hx : b_b [ 116 ] (fun v => c_L v E x.expr) W) (g4 : W.grownBy w' (Value.slice I c.length n).ownBlock)
  (o4 : w'.ownsRow base 61 5 (.slice B' (c.length + 1) n') (c.length + 1) (b_T c es ++ [str x.name, .int .i64 x.fn, str x.col, .int .i64 x.num, .slice E x.expr.length ec])) : ItR base w' (c ++ [x]) B' n' (es ++ [(E, ec)]) := by
 have k : a_I [ 116 ] W w' := a_I.of_own g4 h.own d_
 refine ⟨?_, by simp [h.len], f_S h.firm k h.len (hx.keep k)⟩
 rw [e_E c es x (E, ec) h.len]
 simpa using o4
end
set_option maxRecDepth 100000
theorem n_b (W : World) (P : Nat) (A : Option Addr) (ts : List Tok) (cc : Nat) (s : QSt) (hv : a_O ts = true) (hS : QPt QR W P A ts cc s) (hi : s.i < ts.length) (hl : ts.length ≤ 1000000) :
  Calls prog 192 #[a_G P] W fun e w' => (∃ I n es, e = .returned (.slice I (a_z true ts (b_a ts) [] s).1.length n) ∧ ItR W.heap.size w' (a_z true ts (b_a ts) [] s).1 I n es) ∧ QPost QR W P A ts cc (a_z true ts (b_a ts) [] s).2 w' := by
 obtain ⟨i0, hi0, hz0, hz1, hz2⟩ := info_parts Tryz.info_it
 have hP := hS.lt
 have HStart := a_0 (show ∃ G, (s.e = 0 → ts.length < s.i + G + 1) ∧ d_1 ts (b_a ts) (G + 1) [] s = a_z true ts (b_a ts) [] s from ⟨ts.length, fun _ => by omega, by unfold a_z; rw [if_neg s_]⟩)
 generalize a_z true ts (b_a ts) [] s = R at *
 have HS := a_0 hS
 clear hS
 go_enter func192, ntmps192
 go_wp2_with fail
 go_loopw [3] (fun m3 wr => ∃ (c : List It) (I : Option Addr) (n : Nat) (es : List (Option Addr × Nat)) (t : QSt), m3 = .slice I c.length n ∧ Hid (QPt QR wr P A ts cc t) ∧ Hid (ItR W.heap.size wr c I n es) ∧ Hid (W.grownBy wr (some P)) ∧ t.i < ts.length ∧ c.length ≤ t.i ∧ Hid (∃ G, (t.e = 0 → ts.length < t.i + G + 1) ∧ d_1 ts (b_a ts) (G + 1) c t = R)) (fun m3 wr => n_4 ts P wr)
 case atStart => exact ⟨[], none, 0, [], s, rfl, HS, a_0 ⟨a_o _ _ _ _, rfl, fun v _ i h => absurd h s_⟩, a_0 (g_ _ _), hi, s_, HStart⟩
 case round =>
  clear HS hi HStart
  obtain ⟨c, I, n, es, t, rfl, HS, HR, HG, hi, hlc, HE⟩ := hrel
  have hms := d_H HS.out
  have g1 := a_V hv t
  have g2 := g1.trans (a_H hv (a_7 ts t).2 (k := 5) d_ wEq)
  have hi1 := g1.lt hi
  have hi2 := g2.lt hi
  have g3 := g2.trans (l_5 hv (a_c ts (a_7 ts t).2 5 wEq) hi2)
  refine v_C ?_; intro hi3 HN HSy
  have HEx := a_0 (fun (W' : World) (h : QPt QR W' P A ts cc (a_c ts (a_7 ts t).2 5 wEq)) => q_L W' P A ts cc _ hv h hi2 hl)
  obtain ⟨G, hGl, hE⟩ := HE.out
  rw [d_k] at hE
  have hE2 : e_H ts (b_a ts) G (c ++ [⟨(a_7 ts t).1, 0, [], 0, (b_J ts (a_c ts (a_7 ts t).2 5 wEq)).1⟩]) (b_J ts (a_c ts (a_7 ts t).2 5 wEq)).2 = R := hE
  have HE2 := a_0 hE2
  clear hE hE2 HE g1 g2
  have HIs := a_0 (fun (W' : World) (h : QPt QR W' P A ts cc (b_J ts (a_c ts (a_7 ts t).2 5 wEq)).2) => d_s W' P A ts cc _ h hi3 hl b_t)
  generalize b_J ts (a_c ts (a_7 ts t).2 5 wEq) = r3 at *
  generalize a_c ts (a_7 ts t).2 5 wEq = s2 at *
  generalize a_7 ts t = r1 at *
  obtain ⟨x, s1⟩ := r1
  obtain ⟨ex, u⟩ := r3
  simp only at HN HSy HEx HE2 HIs g3 hi3
  go_wp2_with fail
  refine HN.out.mono ?_
  rintro e w1 ⟨rfl, hq1⟩
  refine s_3 ?_; intro HQ1 HG1
  clear hq1 HN
  go_wp2_with fail
  have hp1 := HQ1.out.lt
  refine (HSy.out _ (HQ1.out.below zX)).mono ?_
  rintro e w2 ⟨rfl, hq2⟩
  have hz2' := hq2.gr.size
  simp at hz2'
  have hzw := HG1.out.size
  have hzW := HG.out.size
  have x2 : w2.heap[w1.heap.size]? = _ := a_r hq2.gr (heap_alloc_new w1 _) o_
  refine _ai ?_; intro HX2 HQ2 HG2
  clear hq2 x2 HSy HQ1 HG1
  go_wp2_with fail
  refine (HEx.out w2 HQ2.out).mono ?_
  rintro e w3 ⟨⟨B, n3, rfl, ho3⟩, hq3⟩
  have hz3' := hq3.gr.size
  have x3 := a_r hq3.gr HX2.out o_
  have d0 := a_2 x3 4
  have d1 := b_1 x3 4
  simp at d0
  have l3 : w1.heap.size < w3.heap.size := by omega
  have y3 : (w3.setCell ⟨w1.heap.size, 4, none⟩ (.slice B ex.length n3)).heap[w1.heap.size]? = some (.cells #[str x, .int .i64 0, str [], .int .i64 0, .slice B ex.length n3] 61 (0, 0)) := by
   have := heap_setCell_same w3 w1.heap.size 4 _ _ (.slice B ex.length n3) x3
   simpa using this
  refine v_L ?_; intro g3s HY HG3 HQ3 HF3
  have HR3 := a_0 (HR.out.step HS.out HG3.out hP)
  have HGW := a_0 (HG.out.trans HG3.out)
  have hzG := HGW.out.size
  clear hq3 ho3 x3 y3 g3s HEx HX2 HQ2 HG2 HS HR HG HG3
  refine v_7 ?_; intro k0 k1 k2 k3 k4
  simp at k0 k1 k2 k3 k4
  simp at hzG
  go_wp2_with (at_builtin; refine wpList_append_own _ rfl _ _ 24 rfl W.heap.size 61 i0 _ 5 72 underlying24 hi0 hz0 hz1 hz2 rfl d_ _ _ _ rfl (a_8 HR3.out.own zX) ⟨_, 0, none⟩ 1 1 [str x, .int .i64 0, str [], .int .i64 0, .slice B ex.length n3] rfl rfl (by exact f_k (b_d s_)) c_ x_ o_ m_ ?_; intro v4 w4 o4 g4 _; obtain ⟨B4, n4, rfl⟩ := a_i o4; have hbx : Below (w3.setCell ⟨w1.heap.size, 4, none⟩ (.slice B ex.length n3)).heap.size (w3.setCell ⟨w1.heap.size, 4, none⟩ (.slice B ex.length n3)) _ := Below.alloc (b_ _ _) (l_ _) (.cells #[str x, .int .i64 0, str [], .int .i64 0, .slice B ex.length n3] 61); have hr := fun k e => ((HR3.out.below hbx).own.lt k e).1; have HR4 := a_0 (ItR.push (x := (⟨x, 0, [], 0, ex⟩ : It)) (ec := n3) (HR3.out.below hbx) (HF3.out.keep (a_I.of_below hbx)) g4 o4); have HQ4 := a_0 ((HQ3.out.below hbx).gr g4 (fun k e => by have := hr k e; omega)); have HG4 := a_0 ((HGW.out.trans (a_1 hbx)).andThen g4 (fun k e => .inl (hr k e))); clear o4 g4 hbx hr HQ3 HR3 HGW HF3 HY)
  have HI4 := a_0 (HIs.out _ HQ4.out)
  by_cases hb : isT ts u 5 b_t = true
  ·have he0 := (b_3 hb).1
   have hm := g3.mono he0; rw [if_pos hm.1] at hms; have hnx := b_e hv hi3 d_ hb; rw [hb] at HI4; have hE := HE2.out; unfold e_H at hE; rw [if_pos hb] at hE; have HE3 := a_0 hE; have hGl := hGl hm.1; clear hE HE2 HIs; refine HI4.out.mono ?_; rintro e w6 ⟨rfl, hb6⟩; have hQ6 := HQ4.out.below hb6; clear k0 k1 k2 k3 k4; refine w_u ?_; intro k0 k1 k2 hf hP6 g7 HQ7; have HR7 := a_0 ((HR4.out.below hb6).step hQ6 g7 hP); have HG7 := a_0 ((HG4.out.trans (a_1 hb6)).trans g7); clear hQ6 g7 hb6 HQ4 HR4 HG4 HI4
   go_wp2
   cases G with
   | zero => have := hm.2; omega
   | succ G =>
   refine ⟨⟨c ++ [(⟨x, 0, [], 0, ex⟩ : It)], B4, n4, es ++ [(B, n3)], ⟨u.i + 1, 0⟩, s_, HQ7, HR7, HG7, hnx, by have := hm.2; simp; omega, a_0 ⟨G, fun _ => by have := hm.2; simp only; omega, HE3.out⟩⟩, ?_⟩
   have h9 : n_4 ts P (w6.setCell ⟨P, 1, none⟩ (.int .i64 ((u.i + 1 : Nat) : Int))) < ts.length - t.i + 1 := by
    rw [d_H HQ7.out, if_pos rfl]; have := hm.2
    simp only
    omega
   rw [hms]; exact h9
  ·have hbf : isT ts u 5 b_t = false := by simpa using hb
   rw [hbf] at HI4; have hE := HE2.out; unfold e_H at hE; rw [if_neg hb] at hE; have HE3 := a_0 hE; clear hE HE2 HIs; refine HI4.out.mono ?_; rintro e w6 ⟨rfl, hb6⟩; have HQ6 := a_0 (show QPost QR W P A ts cc u w6 from ⟨HQ4.out.below hb6, HG4.out.trans (a_1 hb6)⟩); have HR6 := a_0 (HR4.out.below hb6); clear hb6 HQ4 HR4 HG4 HI4
   go_wp2
   refine c_J rfl ?_; apply Exists.intro; apply And.intro
   ·simp [results, results192, go_sem]
    rfl
   ·rw [← HE3.out]
    exact ⟨⟨B4, n4, es ++ [(B, n3)], s_, HR6.out⟩, HQ6.out⟩
set_option maxRecDepth 512
structure PwR (base : Nat) (W : World) (a b : List a_3) (E : Option Addr) (n : Nat) (F : Option Addr) (m : Nat) : Prop where
 own1 : W.ownsRow base 9 1 (.slice E a.length n) a.length (a.map str)
 own2 : W.ownsRow base 9 1 (.slice F b.length m) b.length (b.map str)
 dis : ∀ k, (Value.slice E a.length n).ownBlock = some k → (Value.slice F b.length m).ownBlock ≠ some k
section
variable {base P n m g k H : Nat} {W w' w4 : World} {a b : List a_3} {E F : Option Addr} {x : a_3}
theorem PwR.fr (h : PwR base W a b E n F m) (hg : W.grownBy w' (some P)) (hP : P < base) : PwR base w' a b E n F m := ⟨a_v h.own1 hg hP, a_v h.own2 hg hP, h.dis⟩
theorem PwR.below (h : PwR base W a b E n F m) (hb : Below W.heap.size W w') : PwR base w' a b E n F m := ⟨a_8 h.own1 hb, a_8 h.own2 hb, h.dis⟩
theorem PwR.put1 (h : PwR base W a b E n F m) (o4 : w4.ownsRow base 9 1 (.slice (some ⟨g, 0, none⟩) (a.length + 1) k) (a.length + 1) (a.map str ++ [str x])) (g4 : W.grownBy w4 (Value.slice E a.length n).ownBlock) (hl : (Value.slice E a.length n).ownBlock = some g ∨ g = H) (hH : W.heap.size = H) :
  PwR base w4 (a ++ [x]) b (some ⟨g, 0, none⟩) k F m := by
 refine ⟨by simpa using o4, h.own2.kept g4 ?_, fun j e1 e2 => ?_⟩
 ·cases hb : (Value.slice F b.length m).ownBlock with
  | none => exact .inl rfl
  | some j => exact .inr (fun e => h.dis j e.symm hb)
 ·injection e1 with e1
  subst e1
  rcases hl with hl | hl
  ·exact h.dis _ hl e2
  ·have := e_T h.own2 g e2
   omega
theorem PwR.put2 (h : PwR base W a b E n F m) (o4 : w4.ownsRow base 9 1 (.slice (some ⟨g, 0, none⟩) (b.length + 1) k) (b.length + 1) (b.map str ++ [str x])) (g4 : W.grownBy w4 (Value.slice F b.length m).ownBlock) (hl : (Value.slice F b.length m).ownBlock = some g ∨ g = H) (hH : W.heap.size = H) :
  PwR base w4 a (b ++ [x]) E n (some ⟨g, 0, none⟩) k := by
 refine ⟨h.own1.kept g4 ?_, by simpa using o4, fun j e1 e2 => ?_⟩
 ·cases hb : (Value.slice E a.length n).ownBlock with
  | none => exact .inl rfl
  | some j => exact .inr (fun e => h.dis j hb e.symm)
 ·injection e2 with e2
  subst e2
  rcases hl with hl | hl
  ·exact h.dis _ e1 hl
  ·have := e_T h.own1 g e1
   omega
end
set_option maxRecDepth 100000
theorem n_F (W : World) (P : Nat) (A : Option Addr) (ts : List Tok) (cc : Nat) (s : QSt) (hv : a_O ts = true) (hS : QPt QR W P A ts cc s) (hi : s.i < ts.length) (hl : ts.length ≤ 1000000) :
  Calls prog 194 #[a_G P] W fun e w' => (∃ E n F m, e = .returned (.tuple #[.slice E (a_t true ts s).1.1.length n, .slice F (a_t true ts s).1.2.length m]) ∧ PwR W.heap.size w' (a_t true ts s).1.1 (a_t true ts s).1.2 E n F m) ∧ QPost QR W P A ts cc (a_t true ts s).2 w' := by
 obtain ⟨i0, hi0, hz0, hz1, hz2⟩ := info_parts Tryz.info_txt
 have hP := hS.lt
 have HStart := a_0 (show ∃ G, (s.e = 0 → ts.length < s.i + G + 1) ∧ d_1 ts (c_1 ts) (G + 1) ([], []) s = a_t true ts s from ⟨ts.length, fun _ => by omega, by unfold a_t a_z; rw [if_neg s_]⟩)
 generalize a_t true ts s = R at *
 have HS := a_0 hS
 clear hS
 go_enter func194, ntmps194
 go_wp2_with fail
 go_loopw [2, 3] (fun m2 m3 wr => ∃ (a b : List a_3) (E : Option Addr) (n : Nat) (F : Option Addr) (m : Nat) (t : QSt), m2 = .slice E a.length n ∧ m3 = .slice F b.length m ∧ Hid (QPt QR wr P A ts cc t) ∧ Hid (PwR W.heap.size wr a b E n F m) ∧ Hid (W.grownBy wr (some P)) ∧ t.i < ts.length ∧ a.length ≤ t.i ∧ b.length ≤ t.i ∧ Hid (∃ G, (t.e = 0 → ts.length < t.i + G + 1) ∧ d_1 ts (c_1 ts) (G + 1) (a, b) t = R)) (fun m2 m3 wr => n_4 ts P wr)
 case atStart => exact ⟨[], [], none, 0, none, 0, s, rfl, rfl, HS, a_0 ⟨a_o _ _ _ _, a_o _ _ _ _, fun k h => absurd h (by simp [Value.ownBlock])⟩, a_0 (g_ _ _), hi, s_, s_, HStart⟩
 case round =>
  clear HS hi HStart
  obtain ⟨a, b, E, n, F, m, t, rfl, rfl, HS, HR, HG, hi, hla, hlb, HE⟩ := hrel
  have hms := d_H HS.out
  have g1 := a_V hv t
  have g2 := g1.trans (a_H hv (a_7 ts t).2 (k := 5) d_ wEq)
  have hi1 := g1.lt hi
  have hi2 := g2.lt hi
  have g3 := g2.trans (a_V hv (a_c ts (a_7 ts t).2 5 wEq))
  refine v_C ?_; intro hi3 HN HSy
  have HN2 := a_0 (fun (W' : World) (h : QPt QR W' P A ts cc (a_c ts (a_7 ts t).2 5 wEq)) => c_V W' P A ts cc _ h hi2 hl)
  obtain ⟨G, hGl, hE⟩ := HE.out
  rw [d_k] at hE
  have hE2 : e_H ts (c_1 ts) G (a ++ [(a_7 ts t).1], b ++ [(a_7 ts (a_c ts (a_7 ts t).2 5 wEq)).1]) (a_7 ts (a_c ts (a_7 ts t).2 5 wEq)).2 = R := hE
  have HE2 := a_0 hE2
  clear hE hE2 HE g1 g2
  have HIs := a_0 (fun (W' : World) (h : QPt QR W' P A ts cc (a_7 ts (a_c ts (a_7 ts t).2 5 wEq)).2) => d_s W' P A ts cc _ h hi3 hl b_t)
  generalize a_7 ts (a_c ts (a_7 ts t).2 5 wEq) = r3 at *
  generalize a_c ts (a_7 ts t).2 5 wEq = s2 at *
  generalize a_7 ts t = r1 at *
  obtain ⟨x, s1⟩ := r1
  obtain ⟨y, u⟩ := r3
  simp only at HN HSy HN2 HE2 HIs g3 hi3
  go_wp2_with fail
  refine HN.out.mono ?_
  rintro e w1 ⟨rfl, hq1⟩
  have HQ1 := a_0 hq1.pt
  have HR1 := a_0 (HR.out.fr hq1.gr hP)
  have HG1 := a_0 (HG.out.trans hq1.gr)
  clear hq1 HN HS HR HG
  go_wp2_with fail
  refine (HSy.out _ HQ1.out).mono ?_
  rintro e w2 ⟨rfl, hq2⟩
  have HQ2 := a_0 hq2.pt
  have HR2 := a_0 (HR1.out.fr hq2.gr hP)
  have HG2 := a_0 (HG1.out.trans hq2.gr)
  clear hq2 HSy HQ1 HR1 HG1
  go_wp2_with fail
  refine (HN2.out _ HQ2.out).mono ?_
  rintro e w3 ⟨rfl, hq3⟩
  have HQ3 := a_0 hq3.pt
  have HR3 := a_0 (HR2.out.fr hq3.gr hP)
  have HG3 := a_0 (HG2.out.trans hq3.gr)
  have hz3 := HG3.out.size
  clear hq3 HN2 HQ2 HR2 HG2
  go_wp2_with (at_builtin; first | (refine wpList_append_lies _ rfl _ _ 23 rfl W.heap.size 9 i0 _ 1 16 underlying23 hi0 hz0 hz1 hz2 rfl d_ _ _ _ rfl (a_8 HR3.out.own1 zX) ⟨_, 0, none⟩ 1 1 [str x] rfl rfl (by exact d_L (b_d s_)) c_ d_ x_ o_ m_ _ rfl ?_; intro p4 n4 w4 o4 g4 hl4 hs4; have hbx : Below w3.heap.size w3 (w3.alloc (.cells #[str x] 9)) := Below.alloc (b_ _ w3) (l_ _) _; have hr := fun k e => ((HR3.out.below hbx).own1.lt k e).1; have HR4 := a_0 ((HR3.out.below hbx).put1 o4 g4 hl4 rfl); have HQ4 := a_0 ((HQ3.out.below hbx).gr g4 (fun k e => by have := hr k e; omega)); have HG4 := a_0 ((HG3.out.trans (a_1 hbx)).andThen g4 (fun k e => .inl (hr k e))); have hz4 := HG4.out.size; clear o4 g4 hl4 hs4 hbx hr HQ3 HR3 HG3) | (refine wpList_append_lies _ rfl _ _ 23 rfl W.heap.size 9 i0 _ 1 16 underlying23 hi0 hz0 hz1 hz2 rfl d_ _ _ _ rfl (a_8 HR4.out.own2 zX) ⟨_, 0, none⟩ 1 1 [str y] rfl rfl (by exact d_L (b_d s_)) c_ d_ x_ o_ m_ _ rfl ?_; intro p5 n5 w5 o5 g5 hl5 hs5; have hbx : Below w4.heap.size w4 (w4.alloc (.cells #[str y] 9)) := Below.alloc (b_ _ w4) (l_ _) _; have hr := fun k e => ((HR4.out.below hbx).own2.lt k e).1; have HR5 := a_0 ((HR4.out.below hbx).put2 o5 g5 hl5 rfl); have HQ5 := a_0 ((HQ4.out.below hbx).gr g5 (fun k e => by have := hr k e; omega)); have HG5 := a_0 ((HG4.out.trans (a_1 hbx)).andThen g5 (fun k e => .inl (hr k e))); clear o5 g5 hl5 hs5 hbx hr HQ4 HR4 HG4))
  have HI5 := a_0 (HIs.out _ HQ5.out)
  by_cases hb : isT ts u 5 b_t = true
  ·have he0 := (b_3 hb).1
   have hm := g3.mono he0; rw [if_pos hm.1] at hms; have hnx := b_e hv hi3 d_ hb; rw [hb] at HI5; have hE := HE2.out; unfold e_H at hE; rw [if_pos hb] at hE; have HE3 := a_0 hE; have hGl := hGl hm.1; clear hE HE2 HIs; refine HI5.out.mono ?_; rintro e w6 ⟨rfl, hb6⟩; have hQ6 := HQ5.out.below hb6; refine w_u ?_; intro k0 k1 k2 hf hP6 g7 HQ7; have HR7 := a_0 ((HR5.out.below hb6).fr g7 hP); have HG7 := a_0 ((HG5.out.trans (a_1 hb6)).trans g7); clear hQ6 g7 hb6 HQ5 HR5 HG5 HI5
   go_wp2
   cases G with
   | zero => have := hm.2; omega
   | succ G =>
   refine ⟨⟨a ++ [x], b ++ [y], _, _, _, _, ⟨u.i + 1, 0⟩, s_, s_, HQ7, HR7, HG7, hnx, by have := hm.2; simp; omega, by have := hm.2; simp; omega, a_0 ⟨G, fun _ => by have := hm.2; simp only; omega, HE3.out⟩⟩, ?_⟩
   have h9 : n_4 ts P (w6.setCell ⟨P, 1, none⟩ (.int .i64 ((u.i + 1 : Nat) : Int))) < ts.length - t.i + 1 := by
    rw [d_H HQ7.out, if_pos rfl]; have := hm.2
    simp only
    omega
   rw [hms]; exact h9
  ·have hbf : isT ts u 5 b_t = false := by simpa using hb
   rw [hbf] at HI5; have hE := HE2.out; unfold e_H at hE; rw [if_neg hb] at hE; have HE3 := a_0 hE; clear hE HE2 HIs; refine HI5.out.mono ?_; rintro e w6 ⟨rfl, hb6⟩; have HQ6 := a_0 (show QPost QR W P A ts cc u w6 from ⟨HQ5.out.below hb6, HG5.out.trans (a_1 hb6)⟩); have HR6 := a_0 (HR5.out.below hb6); clear hb6 HQ5 HR5 HG5 HI5
   go_wp2
   refine c_J rfl ?_; apply Exists.intro; apply And.intro
   ·simp [results, results194, go_sem]
    rfl
   ·rw [← HE3.out]
    exact ⟨⟨_, _, _, _, s_, HR6.out⟩, HQ6.out⟩
set_option maxRecDepth 512
def l_4 (a b : List a_3) : List It := List.zipWith (fun x y => ⟨x, 0, y, 0, []⟩) a b
theorem o_v {a b : List a_3} (h : a.length = b.length) (x y : a_3) : l_4 (a ++ [x]) (b ++ [y]) = l_4 a b ++ [⟨x, 0, y, 0, []⟩] := by
 unfold l_4
 rw [List.zipWith_append h]
 rfl
theorem m_1 (ts : List Tok) : ∀ (G : Nat) (a b : List a_3) (s : QSt), a.length = b.length →
  d_1 ts (c_4 ts) G (l_4 a b) s = (l_4 (d_1 ts (c_1 ts) G (a, b) s).1.1 (d_1 ts (c_1 ts) G (a, b) s).1.2, (d_1 ts (c_1 ts) G (a, b) s).2) ∧ (d_1 ts (c_1 ts) G (a, b) s).1.1.length = (d_1 ts (c_1 ts) G (a, b) s).1.2.length
 | 0, a, b, s, h => ⟨rfl, h⟩
 | G + 1, a, b, s, h => by
  have e1 : c_4 ts (l_4 a b) s = (l_4 (c_1 ts (a, b) s).1.1 (c_1 ts (a, b) s).1.2, (c_1 ts (a, b) s).2) := by
   unfold c_4 c_1
   simp only
   rw [o_v h]
  have e2 : (c_1 ts (a, b) s).1.1.length = (c_1 ts (a, b) s).1.2.length := by
   unfold c_1
   simp [h]
  unfold d_1
  rw [e1]
  simp only
  split
  ·exact m_1 ts G _ _ _ e2
  ·exact ⟨rfl, e2⟩
theorem l_M {a b : List a_3} (h : a.length = b.length) : (l_4 a b).length = a.length := by
 unfold l_4
 simp [h]
theorem q_o {a b : List a_3} (h : a.length = b.length) (k : Nat) (hk : k < a.length) : (l_4 a b)[k]'(by rw [l_M h]; exact hk) = ⟨a[k], 0, b[k]'o_, 0, []⟩ := by
 unfold l_4
 simp
theorem f_D {base n k : Nat} {W : World} {a : List a_3} {E : Option Addr} (h : W.ownsRow base 9 1 (.slice E a.length n) a.length (a.map str)) (hk : k < a.length) : ∃ g, E = some ⟨g, 0, none⟩ ∧ g < W.heap.size ∧ W.cell? ⟨g, k, none⟩ = some (str a[k]) := by
 rcases h.2 with ⟨_, hn⟩ | ⟨g, cap, cur, hv, hg, hh, hnc, hcap, hsz, htk⟩
 ·omega
 ·injection hv with h1 h2 h3
  subst h1
  refine ⟨g, rfl, a_6 hh, ?_⟩
  rw [World.ownsRow.cellAt h k o_]
  simp [hk]
theorem ItR.low {base base' n : Nat} {W : World} {c : List It} {I : Option Addr} {es : List (Option Addr × Nat)} (h : ItR base W c I n es) (hb : base' ≤ base) : ItR base' W c I n es := ⟨a_Z h.own hb, h.len, h.firm⟩
set_option maxRecDepth 100000
theorem r_1 (W : World) (P : Nat) (A : Option Addr) (ts : List Tok) (cc : Nat) (s : QSt) (hv : a_O ts = true) (hS : QPt QR W P A ts cc s) (hi : s.i < ts.length) (hl : ts.length + 1 ≤ 1000000) :
  Calls prog 195 #[a_G P] W fun e w' => (∃ I n es, e = .returned (.slice I (a_z true ts (c_4 ts) [] s).1.length n) ∧ ItR W.heap.size w' (a_z true ts (c_4 ts) [] s).1 I n es) ∧ QPost QR W P A ts cc (a_z true ts (c_4 ts) [] s).2 w' := by
 obtain ⟨i0, hi0, hz0, hz1, hz2⟩ := info_parts Tryz.info_it
 have hP := hS.lt
 obtain ⟨hz, hlen⟩ := m_1 ts (ts.length + 1) [] [] s rfl
 have hpl := k_a hv true s hi
 have HPr := a_0 (n_F W P A ts cc s hv hS hi o_)
 have e1 : a_z true ts (c_4 ts) [] s = (l_4 (a_t true ts s).1.1 (a_t true ts s).1.2, (a_t true ts s).2) := by
  unfold a_t a_z
  rw [if_neg s_, if_neg s_]
  exact hz
 have e2 : (a_t true ts s).1.1.length = (a_t true ts s).1.2.length := by
  unfold a_t a_z
  rw [if_neg s_]
  exact hlen
 rw [e1]
 clear hz hlen e1 hS
 generalize a_t true ts s = R at *
 obtain ⟨⟨a, b⟩, u⟩ := R
 simp only at HPr e2 hpl ⊢
 have hzl := l_M e2
 have hzg : ∀ k (h1 : k < (l_4 a b).length) (h2 : k < a.length) (h3 : k < b.length), (l_4 a b)[k] = ⟨a[k], 0, b[k], 0, []⟩ := fun k _ h2 _ => q_o e2 k h2
 generalize l_4 a b = z at *
 go_enter func195, ntmps195
 go_wp2_with fail
 refine HPr.out.mono ?_
 rintro e w1 ⟨⟨E, n1, F, m1, rfl, hr1⟩, hq1⟩
 refine s_3 ?_; intro HQ1 HG1
 have HR1 := a_0 hr1
 have hzw := hq1.gr.size
 clear hq1 hr1 HPr
 go_wp2_with fail
 go_loopw [5, 6] (fun m5 m6 wr => ∃ (k : Nat) (c : List It) (I : Option Addr) (n : Nat) (es : List (Option Addr × Nat)), m6 = .int .i64 k ∧ m5 = .slice I c.length n ∧ k ≤ a.length ∧ c = z.take k ∧ Hid (ItR w1.heap.size wr c I n es) ∧ Hid (Below w1.heap.size w1 wr)) (fun m5 m6 wr => match m6 with | .int _ i => a.length - i.toNat | _ => 0)
 case atStart => exact ⟨0, [], none, 0, [], rfl, rfl, Nat.zero_le _, rfl, a_0 ⟨a_o _ _ _ _, rfl, fun v _ i h => absurd h s_⟩, a_0 (b_ _ _)⟩
 case round =>
  obtain ⟨k, c, I, n, es, rfl, rfl, hk, hc, HR, HB⟩ := hrel
  have hcl : c.length = k := by rw [hc, List.length_take]; omega
  by_cases hkk : k < a.length
  ·obtain ⟨gE, rfl, hgE, hcE⟩ := f_D HR1.out.own1 hkk
   obtain ⟨gF, rfl, hgF, hcF⟩ := f_D HR1.out.own2 (show k < b.length by omega); have hcE2 := (HB.out.cell (p := ⟨gE, k, none⟩) hgE).trans hcE; have hcF2 := (HB.out.cell (p := ⟨gF, k, none⟩) hgF).trans hcF; have hzk := hzg k o_ hkk o_
   have hct : z.take (k + 1) = c ++ [⟨a[k], 0, b[k]'o_, 0, []⟩] := by
    have h := List.take_succ_eq_append_getElem (l := z) (i := k) o_; rw [hzk] at h; exact h.trans (congrArg (· ++ _) hc.symm)
   have hkI : (k : Int) < (a.length : Int) := by omega
   have hkJ : (k : Int) < (b.length : Int) := by omega
   clear hcE hcF hzk hzg; generalize a[k] = xa at *; generalize b[k]'o_ = xb at *; have HCT := a_0 hct; have HCL := a_0 hcl; have hcb : c.length ≤ 1000000 := by omega
   clear hct hc hcl; have hzr := HB.out.size
   go_upto_region 6 with fail
   (go_region_law (refine c_C r_ _ _ _ r_ w1.heap.size 61 i0 _ 5 72 underlying24 hi0 hz0 hz1 hz2 rfl o_ _ _ _ r_ (a_8 HR.out.own zX) ⟨_, 0, none⟩ 1 1 [str xa, .int .i64 0, str xb, .int .i64 0, .slice none 0 0] r_ rfl (by exact f_k (b_d s_)) c_ x_ o_ m_ ?_; intro v4 w5 o4 g4; obtain ⟨B4, n4, rfl⟩ := a_i o4; have hbx : Below wr.heap.size wr _ := (Below.alloc (b_ _ wr) (l_ _) (.cells #[str xa, .int .i64 0, str xb, .int .i64 0, .slice none 0 0] 61)).drew; have hr := fun k e => ((HR.out.below hbx).own.lt k e).1; have HR5 := a_0 (ItR.push (x := (⟨xa, 0, xb, 0, []⟩ : It)) (E := none) (ec := 0) (HR.out.below hbx) (fun v _ => .inl rfl) g4 o4); have HB5 := a_0 ((HB.out.trans (hbx.mono hzr)).grown g4 (by have := hbx.size; omega) (fun k e => hr k e)); clear o4 g4 hbx hr HR HB))
   all_goals
    try simp only [List.getElem_toArray, List.getElem_cons_succ, List.getElem_cons_zero, Act.put, List.setIfInBounds_toArray, List.set_cons_zero, List.set_cons_succ]
    go_wp2
    refine ⟨⟨k + 1, c ++ [(⟨xa, 0, xb, 0, []⟩ : It)], B4, n4, es ++ [(none, 0)], s_, s_, o_, HCT.out.symm, HR5, HB5⟩, ?_⟩
    show a.length - ((k : Int) + 1).toNat < a.length - ((k : Int)).toNat
    omega
  ·have hkz : c = z := by rw [hc, List.take_of_length_le o_]
   clear hc; subst hkz; have hb2 : ¬ ((k : Int) < (a.length : Int)) := by omega
   have HI2 := a_0 (HR.out.low hzw); have HP2 := a_0 (show QPost QR W P A ts cc u wr from ⟨HQ1.out.below HB.out, HG1.out.trans (a_1 HB.out)⟩); clear HR HB HQ1 HG1 HR1
   go_wp2
   refine c_J rfl ?_; apply Exists.intro; apply And.intro
   ·simp [results, results195, go_sem]
    rfl
   ·exact ⟨⟨I, n, rfl, es, HI2.out⟩, HP2.out⟩
set_option maxRecDepth 512
def m_3 (W w' : World) (l : List a_3) (e : Ending) : Prop := e = .returned (.slice (some ⟨W.heap.size, 0, none⟩) l.length l.length) ∧ w'.ownsRow W.heap.size 9 1 (.slice (some ⟨W.heap.size, 0, none⟩) l.length l.length) l.length (l.map str) ∧ Below W.heap.size W w'
theorem h_i (W : World) (l : List a_3) (hl : l.length ≤ maxLen) : (W.alloc (.cells (l.map str).toArray 9)).ownsRow W.heap.size 9 1 (.slice (some ⟨W.heap.size, 0, none⟩) l.length l.length) l.length (l.map str) := by
 have := d_o (e := 9) W (base := W.heap.size) (size := 1) (n := l.length) (cur := (l.map str).toArray) (l_ _) s_ hl
 simpa using this
set_option maxRecDepth 100000
theorem h_w (op : Int) (W : World) : Calls prog 265 #[.int .i64 op] W fun e w' => m_3 W w' (if op = 11 then h_R else f_i) e := by
 have H1 := a_0 (h_i W h_R d_)
 have H2 := a_0 (h_i W f_i d_)
 by_cases h : op = 11
 ·rw [if_pos h]
  subst h
  go_enter func265, ntmps265
  go_wp2
  go_ret
  exact ⟨rfl, H1.out, zX⟩
 ·rw [if_neg h]
  have hb : (op == 11) = false := beq_eq_false_iff_ne.2 h
  go_enter func265, ntmps265
  go_wp2
  go_ret
  exact ⟨rfl, H2.out, zX⟩
theorem r_w (W : World) : Calls prog 165 #[] W fun e w' => m_3 W w' d_Z e := by
 have H1 := a_0 (h_i W d_Z d_)
 go_enter func165, ntmps165
 go_wp2
 go_ret
 exact ⟨rfl, H1.out, zX⟩
def c_A (l : List a_3) (x : a_3) : Nat → Int
 | 0 => 0
 | i + 1 => if 1 ≤ i ∧ l.getD i [] ≠ [] ∧ x = l.getD i [] then (i : Int) else c_A l x i
set_option maxRecDepth 512
theorem m_D (x : a_3) : c_A h_R x h_R.length = c_6 x := by
 simp [c_A, h_R, c_6, d_y, d_2]
theorem l_o (x : a_3) : c_A f_i x f_i.length = b_g x := by
 simp [c_A, f_i, b_g, c_g, d_2]
theorem o_y (x : a_3) : c_A d_Z x d_Z.length = b_f x := by
 simp [c_A, d_Z, b_f, b_o, d_2]
end Go.Proofs.YtmbeeefkpgfgmaaGreatDoor
