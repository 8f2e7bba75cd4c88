/- Parts of the proof. -/
import Derived.Test.YtnpjibaolicbmaaGreatDoorPp16
import Derived.Test.YtnpjibaolicbmaaGreatDoorPp15
import Derived.Test.YtnpjibaolicbmaaGreatDoorPp20
set_option linter.unusedVariables false
set_option linter.unusedSimpArgs false
set_option maxHeartbeats 4000000
namespace Go.Proofs.YtnpjibaolicbmaaGreatDoor
open Go.Proofs.Tryz
open Go.RowKit
def b_r (w : World) (b : Nat) (s : Stp) (a : Adr) : Prop := b < w.heap.size ∧ w.cell? ⟨b, 0, none⟩ = some (.int .i64 s.op) ∧ w.cell? ⟨b, 1, none⟩ = some (str s.src) ∧ w.cell? ⟨b, 2, none⟩ = some (.slice a.nA s.names.length a.nC) ∧ w.cell? ⟨b, 3, none⟩ = some (.slice a.oA s.others.length a.oC) ∧ w.cell? ⟨b, 4, none⟩ = some (.slice a.iA s.items.length a.iC) ∧ w.cell? ⟨b, 5, none⟩ = some (.slice a.cA s.cond.length a.cC)
theorem b_r.below {w w' : World} {b : Nat} {s : Stp} {a : Adr} (h : b_r w b s a) (hb : Below w.heap.size w w') : b_r w' b s a := by
 obtain ⟨h0, c0, c1, c2, c3, c4, c5⟩ := h
 exact ⟨Nat.lt_of_lt_of_le h0 hb.size, (hb.cell (p := ⟨b, _, none⟩) h0).trans c0, (hb.cell (p := ⟨b, _, none⟩) h0).trans c1, (hb.cell (p := ⟨b, _, none⟩) h0).trans c2, (hb.cell (p := ⟨b, _, none⟩) h0).trans c3, (hb.cell (p := ⟨b, _, none⟩) h0).trans c4, (hb.cell (p := ⟨b, _, none⟩) h0).trans c5⟩
theorem g_s (b : Nat) (s : Stp) (a : Adr) (w : World) (hW : a_v w 1 a_w) (hB : b_r w b s a) (ho : s.ok) : b_8 w 208 #[a_f b] (c_E s.src) := by
 refine ⟨fun args W => by kernel_rfl, fun W hW2 => ?_⟩
 obtain ⟨hb, c0, c1, c2, c3, c4, c5⟩ := hB.below hW2
 have HM := a_2 (show Calls prog 209 #[str s.src, .bool true] W (fun e w' => e = .returned (.int .i64 (c_E s.src)) ∧ Below W.heap.size W w') from d_G s.src true W (hW.below hW2) ho.src)
 clear hW hB ho hW2
 generalize c_E s.src = v at *
 go_enter func208, ntmps208
 go_wp2_with (go_at_call 209; refine (HM.out).mono ?_; rintro e w1 ⟨rfl, hb1⟩)
 exact d_s
theorem i_e (b : Nat) (s : Stp) (a : Adr) (w : World) (hW : a_v w 1 a_w) (hB : b_r w b s a) (hA : s.At w a) (ho : s.ok) : b_8 w 212 #[a_f b] (a_z s.names 1) := by
 refine ⟨fun args W => by kernel_rfl, fun W hW2 => ?_⟩
 obtain ⟨hb, c0, c1, c2, c3, c4, c5⟩ := hB.below hW2
 have HM := a_2 (b_w a.nA s.names a.nC 1 W (hW.below hW2) (hA.names.below hW2) ho.names o_ hA.cn)
 clear hW hB hA ho hW2
 generalize a_z s.names 1 = v at *
 go_enter func212, ntmps212
 go_wp2_with (go_at_call 213; refine (HM.out).mono ?_; rintro e w1 ⟨rfl, hb1⟩)
 exact d_s
theorem i_L (b : Nat) (s : Stp) (a : Adr) (w : World) (hW : a_v w 1 a_w) (hB : b_r w b s a) (hA : s.At w a) (ho : s.ok) : b_8 w 214 #[a_f b] (a_z s.others 1) := by
 refine ⟨fun args W => by kernel_rfl, fun W hW2 => ?_⟩
 obtain ⟨hb, c0, c1, c2, c3, c4, c5⟩ := hB.below hW2
 have HM := a_2 (b_w a.oA s.others a.oC 1 W (hW.below hW2) (hA.others.below hW2) ho.others o_ hA.co)
 clear hW hB hA ho hW2
 generalize a_z s.others 1 = v at *
 go_enter func214, ntmps214
 go_wp2_with (go_at_call 213; refine (HM.out).mono ?_; rintro e w1 ⟨rfl, hb1⟩)
 exact d_s
theorem k_a (b : Nat) (s : Stp) (a : Adr) (w : World) (hW : a_v w 1 a_w) (hB : b_r w b s a) (hA : s.At w a) (ho : s.ok) : b_8 w 221 #[a_f b] (a_z s.names 0) := by
 refine ⟨fun args W => by kernel_rfl, fun W hW2 => ?_⟩
 obtain ⟨hb, c0, c1, c2, c3, c4, c5⟩ := hB.below hW2
 have HM := a_2 (b_w a.nA s.names a.nC 0 W (hW.below hW2) (hA.names.below hW2) ho.names o_ hA.cn)
 clear hW hB hA ho hW2
 generalize a_z s.names 0 = v at *
 go_enter func221, ntmps221
 go_wp2_with (go_at_call 213; refine (HM.out).mono ?_; rintro e w1 ⟨rfl, hb1⟩)
 exact d_s
theorem k_j (b : Nat) (s : Stp) (a : Adr) (w : World) (hW : a_v w 1 a_w) (hB : b_r w b s a) (hA : s.At w a) (ho : s.ok) : b_8 w 225 #[a_f b] (a_z s.names 0) := by
 refine ⟨fun args W => by kernel_rfl, fun W hW2 => ?_⟩
 obtain ⟨hb, c0, c1, c2, c3, c4, c5⟩ := hB.below hW2
 have HM := a_2 (b_w a.nA s.names a.nC 0 W (hW.below hW2) (hA.names.below hW2) ho.names o_ hA.cn)
 clear hW hB hA ho hW2
 generalize a_z s.names 0 = v at *
 go_enter func225, ntmps225
 go_wp2_with (go_at_call 213; refine (HM.out).mono ?_; rintro e w1 ⟨rfl, hb1⟩)
 exact d_s
theorem j_W (b : Nat) (s : Stp) (a : Adr) (w : World) (hW : a_v w 1 a_w) (hB : b_r w b s a) (hA : s.At w a) (ho : s.ok) : b_8 w 226 #[a_f b] (a_z s.others 0) := by
 refine ⟨fun args W => by kernel_rfl, fun W hW2 => ?_⟩
 obtain ⟨hb, c0, c1, c2, c3, c4, c5⟩ := hB.below hW2
 have HM := a_2 (b_w a.oA s.others a.oC 0 W (hW.below hW2) (hA.others.below hW2) ho.others o_ hA.co)
 clear hW hB hA ho hW2
 generalize a_z s.others 0 = v at *
 go_enter func226, ntmps226
 go_wp2_with (go_at_call 213; refine (HM.out).mono ?_; rintro e w1 ⟨rfl, hb1⟩)
 exact d_s
theorem n_H (x : It) (E : Option Addr) (ec : Nat) (w : World) (hW : a_v w 1 a_w) (hn : b_q w E x.expr) (ho : x.ok) : Calls prog 217 (#[itV x E ec] ++ #[]) w fun e w' => e = .returned (.int .i64 (a_u x.expr)) ∧ Below w.heap.size w w' := by
 have HM := a_2 (fun W (hb : Below w.heap.size w W) => b_m E x.expr ec W (hW.below hb) (hn.below hb) ho.2 ho.1)
 clear hW hn ho
 obtain ⟨xn, xf, xc, xm, xe⟩ := x
 simp only at HM
 show Calls prog 217 #[.agg #[str xn, .int .i64 xf, str xc, .int .i64 xm, .slice E xe.length ec]] w _
 generalize a_u xe = v at *
 generalize xe.length = le at *
 go_enter func217, ntmps217
 go_wp2_with (go_at_call 99; refine (HM.out _ zX).mono ?_; rintro e w1 ⟨rfl, hb1⟩)
 exact p_J
theorem k_B (x : It) (E : Option Addr) (ec : Nat) (w : World) (hW : a_v w 1 a_w) : Calls prog 219 (#[itV x E ec] ++ #[]) w fun e w' => e = .returned (.int .i64 (a_F x.col)) ∧ Below w.heap.size w w' := by
 have HM := a_2 (fun W (hb : Below w.heap.size w W) => b_T x.col W (hW.below hb))
 clear hW
 obtain ⟨xn, xf, xc, xm, xe⟩ := x
 simp only at HM
 show Calls prog 219 #[.agg #[str xn, .int .i64 xf, str xc, .int .i64 xm, .slice E xe.length ec]] w _
 generalize a_F xc = v at *
 generalize xe.length = le at *
 go_enter func219, ntmps219
 go_wp2_with (go_at_call 220; refine (HM.out _ zX).mono ?_; rintro e w1 ⟨rfl, hb1⟩)
 exact p_J
theorem l_n (b : Nat) (s : Stp) (a : Adr) (x : It) (E : Option Addr) (ec : Nat) (w : World) (hW : a_v w 1 a_w) (hB : b_r w b s a) (hA : s.At w a) (ho : s.ok) : Calls prog 223 (#[itV x E ec] ++ #[a_f b]) w fun e w' => e = .returned (.int .i64 (b_Y s.names x)) ∧ Below w.heap.size w w' := by
 have HM := a_2 (fun W (hb : Below w.heap.size w W) => show Calls prog 224 #[.agg #[.int .i64 s.op, str s.src, .slice a.nA s.names.length a.nC, .slice a.oA s.others.length a.oC, .slice a.iA s.items.length a.iC, .slice a.cA s.cond.length a.cC], .agg #[str x.name, .int .i64 x.fn, str x.col, .int .i64 x.num, .slice E x.expr.length ec]] W (fun e w' => e = .returned (.int .i64 (b_Y s.names x)) ∧ Below W.heap.size W w') from f_p s a x E ec W (hW.below hb) (hA.names.below hb) ho.names)
 have HB := a_2 (fun W (hb : Below w.heap.size w W) => hB.below hb)
 clear hW hB hA ho
 show Calls prog 223 #[.agg #[str x.name, .int .i64 x.fn, str x.col, .int .i64 x.num, .slice E x.expr.length ec], a_f b] w _
 generalize b_Y s.names x = v at *
 obtain ⟨hb, c0, c1, c2, c3, c4, c5⟩ := HB.out (w.alloc (.cells #[str x.name, .int .i64 x.fn, str x.col, .int .i64 x.num, .slice E x.expr.length ec] 135)) zX
 generalize x.expr.length = le at *
 generalize s.names.length = l1 at *
 generalize s.others.length = l2 at *
 generalize s.items.length = l3 at *
 generalize s.cond.length = l4 at *
 go_enter func223, ntmps223
 go_wp2_with (go_at_call 224; refine (HM.out _ zX).mono ?_; rintro e w1 ⟨rfl, hb1⟩)
 exact p_J
theorem l_w {f : FuncId} {args : Array Value} {w : World} {a b : Int} (H : Calls prog f args w fun e w' => e = .returned (.int .i64 a) ∧ Below w.heap.size w w') (h : a = b) : Calls prog f args w fun e w' => e = .returned (.int .i64 b) ∧ Below w.heap.size w w' := by
 subst h
 exact H
def f_Z (s : Stp) : Int := a_c (c_E s.src) (a_c (a_z s.names 1) (a_c (a_z s.others 1) (if s.names.length = s.others.length then 0 else 8)))
theorem f_k (a b c : Int) : a_c (a_c a b) c = a_c a (a_c b c) := by
 unfold a_c
 by_cases ha : a = 0
 ·subst ha
  by_cases hb : b = 0
  ·subst hb; rfl
  ·simp [hb]
 ·simp [ha]
theorem g_k (s : Stp) : g_1 s = a_c (f_Z s) (a_N s.items 0 false true false false fun x => a_F x.col) := by
 unfold g_1 f_Z
 rw [f_k, f_k, f_k]
theorem i_p {s : Stp} (h : s.items = []) : g_1 s = f_Z s := by
 rw [g_k, h]
 show a_c (f_Z s) 0 = f_Z s
 unfold a_c
 split
 ·rename_i h; exact h.symm
 ·rfl
theorem two (a b : Int) : a_o (fun j => [a, b].getD j 0) 2 = a_c a b := by
 by_cases ha : a = 0 <;> simp [a_o, a_c, ha]
theorem o_X (a b c : Int) : a_o (fun j => [a, b, c].getD j 0) 3 = a_c a (a_c b c) := by
 by_cases ha : a = 0 <;> by_cases hb : b = 0 <;> simp [a_o, a_c, ha, hb]
theorem s_M (a b c d : Int) : a_o (fun j => [a, b, c, d].getD j 0) 4 = a_c a (a_c b (a_c c d)) := by
 by_cases ha : a = 0 <;> by_cases hb : b = 0 <;> by_cases hc : c = 0 <;> simp [a_o, a_c, ha, hb, hc]
theorem j_Y (s : Stp) : f_A s = a_c (a_z s.names 0) (a_c (if s.names.length + s.items.length = 0 then 2 else 0) (a_N s.items 0 true true false false (b_Y s.names))) := by
 unfold f_A
 congr 1
 by_cases h : s.names.length + s.items.length = 0
 ·rw [if_pos h, if_pos h]; rfl
 ·rw [if_neg h, if_neg h]; rfl
set_option maxRecDepth 100000
theorem e_Q (b3 b : Nat) (s : Stp) (a : Adr) (w : World) (hW : a_v w 1 a_w) (hB : b_r w b s a) (h3 : b3 < w.heap.size) (hf : w.cell? ⟨b3, 0, none⟩ = some (.func (.func 208) #[] #[a_f b])) (hA : s.At w a) (ho : s.ok) : b_8 w 210 #[a_f b3, a_f b] (f_Z s) := by
 refine ⟨fun args W => by kernel_rfl, fun W hW2 => ?_⟩
 obtain ⟨hb, c0, c1, c2, c3, c4, c5⟩ := hB.below hW2
 have hb3 := Nat.lt_of_lt_of_le h3 hW2.size
 have cf := (hW2.cell (p := ⟨b3, 0, none⟩) h3).trans hf
 have HT1 := a_2 (fun V (h : Below W.heap.size W V) => g_s b s a V ((hW.below hW2).below h) ((hB.below hW2).below h) ho)
 have HT2 := a_2 (fun V (h : Below W.heap.size W V) => i_e b s a V ((hW.below hW2).below h) ((hB.below hW2).below h) ((hA.below hW2).below h) ho)
 have HT3 := a_2 (fun V (h : Below W.heap.size W V) => i_L b s a V ((hW.below hW2).below h) ((hB.below hW2).below h) ((hA.below hW2).below h) ho)
 have HX := a_2 (show f_Z s = a_c (c_E s.src) (a_c (a_z s.names 1) (a_c (a_z s.others 1) (if s.names.length = s.others.length then 0 else 8))) from rfl)
 have hl1 := ho.names
 have hl2 := ho.others
 clear hW hB hA ho hW2 hf h3
 generalize f_Z s = r at *
 generalize c_E s.src = e1 at *
 generalize a_z s.names 1 = e2 at *
 generalize a_z s.others 1 = e3 at *
 generalize s.names.length = ln at *
 generalize s.others.length = lo at *
 have HS := a_2 (fun w' (hbb : Below W.heap.size W w') => show w'.cell? ⟨b3, 0, none⟩ = some (.func (.func 208) #[] #[a_f b]) ∧ w'.cell? ⟨b, 2, none⟩ = some (.slice a.nA ln a.nC) ∧ w'.cell? ⟨b, 3, none⟩ = some (.slice a.oA lo a.oC) ∧ Below W.heap.size W w' from
  ⟨(hbb.cell (p := ⟨b3, 0, none⟩) hb3).trans cf, (hbb.cell (p := ⟨b, 2, none⟩) hb).trans c2, (hbb.cell (p := ⟨b, 3, none⟩) hb).trans c3, hbb⟩)
 clear c0 c1 c2 c3 c4 c5 cf
 go_enter func210, ntmps210
 go_wp2
 refine wp_region_held_drew (S := (fun w' => w'.cell? ⟨b3, 0, none⟩ = some (.func (.func 208) #[] #[a_f b]) ∧ w'.cell? ⟨b, 2, none⟩ = some (.slice a.nA ln a.nC) ∧ w'.cell? ⟨b, 3, none⟩ = some (.slice a.oA lo a.oC) ∧ Below W.heap.size W w')) k_ (by (try dsimp only); exact HS.out _ (Below.drew (b_ _ _))) (fun hHeld => ?_)
 refine zT 0 ?_; refine zT 1 ?_; refine zT 2 ?_; refine zT 3 ?_; refine zT 4 ?_; refine zT 5 ?_; refine zT 6 ?_; refine zT 7 ?_; refine zT 8 ?_; refine zT 9 ?_
 refine zR 10 (fun K hK => ?_)
 go_simp
 go_wp2_with (go_at_call 215; refine (c_d _ _ _).mono ?_; rintro e q1 ⟨⟨lb, v, rfl, hv, ht⟩, hb1⟩; have hq1 := a_9 hb1 (show Below W.heap.size W _ from Below.drew (b_ _ _)); have HT := a_2 ht; have HV := a_2 hv; clear ht hv)
 refine zB hK (HS.out _ hq1) (fun hHeld => ?_)
 clear hK K
 refine zR 11 (fun K hK => ?_)
 go_simp
 refine zB hK (HS.out _ (hq1.alloc hq1.size _)) (fun hHeld => ?_)
 clear hK K
 have hfin : a_o (fun j => (([⟨208, #[a_f b], e1⟩, ⟨212, #[a_f b], e2⟩, ⟨214, #[a_f b], e3⟩, ⟨260, lb, v⟩] : List Thk).map Thk.v).getD j 0) 4 = r := by
  rw [HX.out]
  have hv2 : v = if ln = lo then 0 else 8 := by
   rw [HV.out]
   by_cases h : ln = lo
   ·simp [h]
   ·have h9 : ¬ (ln : Int) = (lo : Int) := by omega
    simp [h, h9]
  rw [← hv2, ← s_M]
  rfl
 have B1 : Below q1.heap.size q1 (q1.alloc (.cells #[.func (.func 208) #[] #[a_f b], .func (.func 212) #[] #[a_f b], .func (.func 214) #[] #[a_f b], .func (.func 260) #[] lb] 80)) := (b_ _ _).alloc (l_ _) _
 have B0 := a_9 B1 hq1
 have T1 := a_2 (HT1.out _ B0)
 have T2 := a_2 (HT2.out _ B0)
 have T3 := a_2 (HT3.out _ B0)
 have T4 := a_2 (HT.out.below B1)
 have HFst := a_2 (l_w (b_X q1.heap.size 4 [⟨208, #[a_f b], e1⟩, ⟨212, #[a_f b], e2⟩, ⟨214, #[a_f b], e3⟩, ⟨260, lb, v⟩] (q1.alloc (.cells #[.func (.func 208) #[] #[a_f b], .func (.func 212) #[] #[a_f b], .func (.func 214) #[] #[a_f b], .func (.func 260) #[] lb] 80)) s_ (show (4 : Nat) ≤ 10 from by decide) (fun j h => by
   have h9 : j < 4 := h
   match j, h9 with
   | 0, _ => simp [go_sem]
   | 1, _ => simp [go_sem]
   | 2, _ => simp [go_sem]
   | 3, _ => simp [go_sem]) (fun j h => by
   have h9 : j < 4 := h
   match j, h9 with
   | 0, _ => exact T1.out
   | 1, _ => exact T2.out
   | 2, _ => exact T3.out
   | 3, _ => exact T4.out)) hfin)
 refine zR 12 (fun K hK => ?_)
 go_simp
 go_wp2_with (go_at_call 211; go_loud (refine (HFst.out).mono ?_; rintro e q8 ⟨rfl, hb8⟩; have hq8 := a_9 hb8 B0))
 refine zB hK (HS.out _ hq8) (fun hHeld => ?_)
 clear hK K
 refine zR 13 (fun K hK => ?_)
 go_simp
 refine zB hK (by (try dsimp only); assumption) (fun hHeld => ?_)
 clear hK K
 refine wpAnyH_done k_ ?_ _
 go_wp2
 go_ret
 exact ⟨rfl, hq8⟩
set_option maxRecDepth 512
def knC (ks : List Kn) : List Value := ks.flatMap fun x => [.int .i64 x.1, .bool x.2]
theorem k_T : ∀ ks : List Kn, (knC ks).length = ks.length * 2
 | [] => rfl
 | x :: ks => by
  show ([Value.int .i64 x.1, Value.bool x.2] ++ knC ks).length = _
  rw [List.length_append, k_T ks]; simp; omega
theorem m_Z : ∀ (ks : List Kn) (i : Nat) (h : i < ks.length), (knC ks)[i * 2]? = some (.int .i64 ks[i].1) ∧ (knC ks)[i * 2 + 1]? = some (.bool ks[i].2)
 | [], i, h => absurd h (Nat.not_lt_zero _)
 | x :: ks, 0, _ => ⟨rfl, rfl⟩
 | x :: ks, i + 1, h => by
  have e : knC (x :: ks) = Value.int .i64 x.1 :: Value.bool x.2 :: knC ks := rfl
  have ih := m_Z ks i (by simpa using h)
  rw [e, show (i + 1) * 2 = i * 2 + 1 + 1 by omega]
  simpa using ih
def r_v (cs : List Col) (zs : List Zon) (es : List Nd) : Nat → Except Int (List Kn)
 | 0 => .ok []
 | k + 1 => match r_v cs zs es k with
  | .error x => .error x
  | .ok st => match es[k]? with
   | none => .ok st
   | some n => if (n_r cs zs n.op n.val.kind n.name (st.drop (st.length - n.ar.toNat))).2 = 0 then .ok (st.take (st.length - n.ar.toNat) ++ [(n_r cs zs n.op n.val.kind n.name (st.drop (st.length - n.ar.toNat))).1]) else .error (n_r cs zs n.op n.val.kind n.name (st.drop (st.length - n.ar.toNat))).2
section
variable {cs : List Col} {zs : List Zon} {es : List Nd}
end
def KnR (cs : List Col) (zs : List Zon) (es : List Nd) (k n : Nat) (xs : List Value) (ks : List Kn) : Prop := xs = knC ks ∧ ks.length = n ∧ r_v cs zs es k = .ok ks
theorem KnR.len {cs : List Col} {zs : List Zon} {es : List Nd} {k n : Nat} {xs : List Value} {ks : List Kn} (h : KnR cs zs es k n xs ks) : xs.length = n * 2 := by
 rw [h.1, k_T, h.2.1]
theorem KnR.last {cs : List Col} {zs : List Zon} {es : List Nd} {k : Nat} {xs : List Value} {ks : List Kn} (h : KnR cs zs es k 1 xs ks) : ∃ (kk : Int) (bb : Bool), r_v cs zs es k = .ok [(kk, bb)] ∧ xs[0]? = some (.int .i64 kk) ∧ xs[1]? = some (.bool bb) := by
 obtain ⟨rfl, h2, h3⟩ := h
 match ks, h2 with
 | [(kk, bb)], _ => exact ⟨kk, bb, h3, rfl, rfl⟩
theorem KnR.own {cs : List Col} {zs : List Zon} {es : List Nd} {k n c r base : Nat} {e : TypeId} {w : World} {A : Option Addr} {xs : List Value} {ks : List Kn} (hk : KnR cs zs es k n xs ks) (h : w.ownsRow base e 2 (.slice A n c) n xs) (hr : r ≤ n) :
  m_k w (if c = r then A else A.map (·.add (r * 2))) (ks.drop r) := by
 obtain ⟨rfl, hn, -⟩ := hk
 rcases h.2 with ⟨hv, hn0⟩ | ⟨g, cap, cur, hv, hg, hh, hnc, hcap, hsz, htk⟩
 ·exact .inl (List.eq_nil_of_length_eq_zero (by rw [List.length_drop]; omega))
 ·injection hv with h1 h2 h3
  subst h1 h3
  by_cases hrn : r = n
  ·exact .inl (List.eq_nil_of_length_eq_zero (by rw [List.length_drop]; omega))
  rw [if_neg o_]
  refine .inr ⟨g, r * 2, ?_, a_6 hh, fun i hi => ?_⟩
  ·cases r with
   | zero => simp [Addr.add]
   | succ m => simp [Addr.add]
  ·rw [List.length_drop] at hi
   obtain ⟨h3, h4⟩ := m_Z ks (r + i) o_; rw [List.getElem_drop]; refine ⟨?_, ?_⟩
   ·have hc : w.cell? ⟨g, r * 2 + i * 2, none⟩ = (knC ks)[r * 2 + i * 2]? := World.ownsRow.cellAt h (r * 2 + i * 2) o_
    rw [hc, show r * 2 + i * 2 = (r + i) * 2 by omega]; exact h3
   ·have hc : w.cell? ⟨g, r * 2 + i * 2 + 1, none⟩ = (knC ks)[r * 2 + i * 2 + 1]? := World.ownsRow.cellAt h (r * 2 + i * 2 + 1) o_
    rw [hc, show r * 2 + i * 2 + 1 = (r + i) * 2 + 1 by omega]; exact h4
def d_J (w w' : World) : Prop := w.heap.size ≤ w'.heap.size ∧ ∀ (k : Nat) (cs : Array Value) (t : TypeId) (r : Nat × Nat), w.heap[k]? = some (Obj.cells cs t r) → t ≠ 129 → w'.heap[k]? = some (Obj.cells cs t r)
theorem d_J.refl (w : World) : d_J w w := ⟨l_ _, fun _ _ _ _ h _ => h⟩
theorem d_J.trans {a b c : World} (h : d_J a b) (g : d_J b c) : d_J a c := ⟨Nat.le_trans h.1 g.1, fun k cs t r e ht => g.2 k cs t r (h.2 k cs t r e ht) ht⟩
theorem d_J.of_below {w w' : World} (h : Below w.heap.size w w') : d_J w w' :=
 ⟨h.size, fun k cs t r e ht => (h.block k (a_6 e)).trans e⟩
def k_l (F : World → Prop) (w : World) : Prop := ∀ w', d_J w w' → F w'
theorem k_l.now {F : World → Prop} {w : World} (h : k_l F w) : F w := h w (d_J.refl w)
theorem k_l.keep {F : World → Prop} {w w' : World} (h : k_l F w) (k : d_J w w') : k_l F w' := fun v hv => h v (k.trans hv)
theorem k_l.below {F : World → Prop} {w w' : World} (h : k_l F w) (b : Below w.heap.size w w') : k_l F w' := h.keep (d_J.of_below b)
theorem k_l.mono {F G : World → Prop} {w : World} (h : k_l F w) (i : ∀ v, F v → G v) : k_l G w := fun v hv => i v (h v hv)
theorem k_l.pure {p : Prop} {w : World} (h : p) : k_l (fun _ => p) w := fun _ _ => h
end Go.Proofs.YtnpjibaolicbmaaGreatDoor
