/- Parts of the proof. -/
import Derived.Shelf.Abstract
import Derived.Test.YtmbeeefkpgfgmaaGreatDoorPp21
set_option linter.unusedVariables false
set_option linter.unusedSimpArgs false
set_option maxHeartbeats 16000000
namespace Go.Proofs.YtmbeeefkpgfgmaaGreatDoor
open Go.Proofs.Tryz
section
open Go.RowKit
set_option maxRecDepth 100000
theorem h_Z (W : World) (P : Nat) (A : Option Addr) (ts : List Tok) (c : Nat) (s : QSt) (hS : QPt QT W P A ts c s) (hi : s.i < ts.length) (hl : ts.length ≤ 1000000) (k : Int) (x : a_3) :
  Calls prog 112 #[.pointer (some ⟨P, 0, none⟩), .int .i64 k, str x] W fun e' w' => e' = .returned (.bool (isT ts s k x)) ∧ QPost QT W P A ts c (if isT ts s k x = true then ⟨s.i + 1, 0⟩ else s) w' := by
 have HI := a_0 (v_W W P A ts c s hS hi hl k x)
 have HS := a_0 hS
 have hse := fun h => (b_3 (ts := ts) (s := s) (k := k) (x := x) h).1
 clear hS
 generalize isT ts s k x = v at *
 cases v with
 | false =>
  clear hse
  go_enter func112, ntmps112
  go_wp2_with fail
  refine HI.out.mono ?_
  rintro e w1 ⟨rfl, hb1⟩
  go_wp2
  go_ret
  exact ⟨rfl, QPost.of_below HS.out hb1⟩
 | true =>
  have hz := hse rfl
  clear hse
  go_enter func112, ntmps112
  go_wp2_with fail
  refine HI.out.mono ?_
  rintro e w1 ⟨rfl, hb1⟩
  refine q_4 ?_; intro hS1 c0 c1 c2 hP
  have hf := hS1.free
  have HS1 := a_0 (hS1.setAt (s.i + 1))
  rw [hz] at HS1
  clear hS1 hz
  go_wp2
  go_ret
  exact s_V
theorem n_9 (W : World) (P : Nat) (A : Option Addr) (ts : List Tok) (c : Nat) (s : QSt) (hS : QPt QT W P A ts c s) (hi : s.i < ts.length) (hl : ts.length ≤ 1000000) (x : a_3) :
  Calls prog 109 #[.pointer (some ⟨P, 0, none⟩), str x] W fun e' w' => e' = .returned (.tuple #[]) ∧ QPost QT W P A ts c (a_c ts s 1 x) w' := by
 have HI := a_0 (h_Z W P A ts c s hS hi hl 1 x)
 clear hS
 unfold a_c
 generalize isT ts s 1 x = v at *
 cases v with
 | false =>
  simp only [Bool.false_eq_true, ↓reduceIte] at HI ⊢
  go_enter func109, ntmps109
  go_wp2_with fail
  refine HI.out.mono ?_
  rintro e w1 ⟨rfl, hq1⟩
  have HQ := a_0 hq1
  clear hq1 HI
  go_wp2_with fail
  refine (g_C w1 P A ts c s HQ.out.pt 3).mono ?_
  rintro e w2 ⟨rfl, hq2⟩
  go_wp2
  go_end0
  exact ⟨rfl, HQ.out.trans hq2⟩
 | true =>
  simp only [↓reduceIte] at HI ⊢
  go_enter func109, ntmps109
  go_wp2_with fail
  refine HI.out.mono ?_
  rintro e w1 ⟨rfl, hq1⟩
  go_wp2
  go_end0
  exact ⟨rfl, hq1⟩
theorem e_2 (W : World) (P : Nat) (A : Option Addr) (ts : List Tok) (c : Nat) (s : QSt) (hS : QPt QT W P A ts c s) (hi : s.i < ts.length) (hl : ts.length ≤ 1000000) (x : a_3) :
  Calls prog 236 #[.pointer (some ⟨P, 0, none⟩), str x] W fun e' w' => e' = .returned (.tuple #[]) ∧ QPost QT W P A ts c (a_c ts s 5 x) w' := by
 have HI := a_0 (h_Z W P A ts c s hS hi hl 5 x)
 clear hS
 unfold a_c
 generalize isT ts s 5 x = v at *
 cases v with
 | false =>
  simp only [Bool.false_eq_true, ↓reduceIte] at HI ⊢
  go_enter func236, ntmps236
  go_wp2_with fail
  refine HI.out.mono ?_
  rintro e w1 ⟨rfl, hq1⟩
  have HQ := a_0 hq1
  clear hq1 HI
  go_wp2_with fail
  refine (g_C w1 P A ts c s HQ.out.pt 3).mono ?_
  rintro e w2 ⟨rfl, hq2⟩
  go_wp2
  go_end0
  exact ⟨rfl, HQ.out.trans hq2⟩
 | true =>
  simp only [↓reduceIte] at HI ⊢
  go_enter func236, ntmps236
  go_wp2_with fail
  refine HI.out.mono ?_
  rintro e w1 ⟨rfl, hq1⟩
  go_wp2
  go_end0
  exact ⟨rfl, hq1⟩
theorem e_r (W : World) (P : Nat) (A : Option Addr) (ts : List Tok) (c : Nat) (s : QSt) (hS : QPt QT W P A ts c s) (hi : s.i < ts.length) (hl : ts.length ≤ 1000000) :
  Calls prog 114 #[.pointer (some ⟨P, 0, none⟩)] W fun e' w' => e' = .returned (.bool (a_e ts s)) ∧ Below W.heap.size W w' := by
 refine q_M ?_; intro c0 c1 c2 hP
 have HN := a_0 (k_n W P A ts c s hS hi hl)
 have HX := a_0 (show a_e ts s = (s.e == 0 && (tk ts s.i).kind == 1) from rfl)
 clear hS hi hl
 generalize a_e ts s = v at *
 generalize tk ts s.i = t at *
 obtain ⟨tk0, tk1, tk2, tk3⟩ := t
 obtain ⟨si, se⟩ := s
 simp only at c1 c2
 refine v_E ?_; intro HN
 have f0 := l_H
 go_enter func114, ntmps114
 go_wp2_with ((with_reducible refine HN.out.mono ?_); rintro e w1 ⟨rfl, hb1⟩)
 all_goals
  exact _av
theorem g_F (W : World) (P : Nat) (A : Option Addr) (ts : List Tok) (c : Nat) (s : QSt) (hS : QPt QT W P A ts c s) (hi : s.i < ts.length) (hl : ts.length ≤ 1000000) :
  Calls prog 110 #[.pointer (some ⟨P, 0, none⟩)] W fun e' w' => e' = .returned (str (a_7 ts s).1) ∧ QPost QT W P A ts c (a_7 ts s).2 w' := by
 have HI := a_0 (e_r W P A ts c s hS hi hl)
 have HS := a_0 hS
 have hse := fun h => (a_D (ts := ts) (s := s) h).1
 clear hS
 unfold a_7
 generalize a_e ts s = v at *
 cases v with
 | false =>
  clear hse
  simp only [Bool.false_eq_true, ↓reduceIte] at HI ⊢
  go_enter func110, ntmps110
  go_wp2_with fail
  refine HI.out.mono ?_
  rintro e w1 ⟨rfl, hb1⟩
  have HQ := a_0 (QPost.of_below HS.out hb1)
  clear hb1 HI
  go_wp2_with fail
  refine (g_C w1 P A ts c s HQ.out.pt 3).mono ?_
  rintro e w2 ⟨rfl, hq2⟩
  go_wp2
  go_ret
  exact ⟨rfl, HQ.out.trans hq2⟩
 | true =>
  have hz := hse rfl
  clear hse
  simp only [↓reduceIte] at HI ⊢
  have HT := a_0 (fun (W' : World) (h : QPt QT W' P A ts c s) => h.tok.at_ hi)
  generalize tk ts s.i = t at *
  obtain ⟨tk0, tk1, tk2, tk3⟩ := t
  go_enter func110, ntmps110
  go_wp2_with fail
  refine HI.out.mono ?_
  rintro e w1 ⟨rfl, hb1⟩
  have hS1 := HS.out.below hb1
  obtain ⟨c0, c1, c2⟩ := hS1.cells
  obtain ⟨g, off, rfl, hgP, t0, t1, t2, t3⟩ := HT.out w1 hS1
  have hP := hS1.lt
  have hf := hS1.free
  have hg : g < w1.heap.size := Nat.lt_trans hgP hP
  have hgne : g ≠ P := Nat.ne_of_lt hgP
  have HS1 := a_0 (hS1.setAt (s.i + 1))
  rw [hz] at HS1
  clear hS1 hz HS HT
  obtain ⟨si, se⟩ := s
  simp only at t0 t1 t2 t3 c1 c2 hi HS1
  have hq1 : IntKind.i64.wrap (((si + 1 : Nat) : Int) - 1) = (si : Int) := by rw [IntWalk.i64_in _ o_]; omega
  go_wp2
  go_region
  go_wp2
  exact w_c
theorem o_O (W : World) (P : Nat) (A : Option Addr) (ts : List Tok) (c : Nat) (s : QSt) (hS : QPt QT W P A ts c s) (hi : s.i < ts.length) (hl : ts.length ≤ 1000000) :
  Calls prog 268 #[.pointer (some ⟨P, 0, none⟩)] W fun e' w' => e' = .returned (.int .i64 (l_X ts s).1) ∧ QPost QT W P A ts c (l_X ts s).2 w' := by
 refine q_M ?_; intro c0 c1 c2 hP
 have HS := a_0 hS
 have HN := a_0 (k_n W P A ts c s hS hi hl)
 clear hS
 have HT := a_0 (fun (W' : World) (h : QPt QT W' P A ts c s) => h.tok.at_ hi)
 refine w_h ?_; intro HX
 generalize l_X ts s = r at *
 have f0 := l_H
 generalize tk ts s.i = t at *
 obtain ⟨tk0, tk1, tk2, tk3⟩ := t
 refine v_E ?_; intro HN
 by_cases he : s.e = 0
 ·rw [he] at c2
  by_cases hk : tk0 = 2
  ·subst hk
   have HR := a_0 (HX.out.trans (if_pos ⟨he, rfl⟩)); clear HX; rw [HR.out]; clear HR
   go_enter func268, ntmps268
   go_wp2_with fail
   refine HN.out.mono ?_; rintro e w1 ⟨rfl, hb1⟩; have hS1 := HS.out.below hb1; clear c0 c1 c2; obtain ⟨c0, c1, c2⟩ := hS1.cells; obtain ⟨g, off, rfl, hgP, t0, t1, t2, t3⟩ := HT.out w1 hS1; have hP1 := hS1.lt; have hf := hS1.free; have hg : g < w1.heap.size := Nat.lt_trans hgP hP1; have hgne : g ≠ P := Nat.ne_of_lt hgP; have HS1 := a_0 (hS1.setAt (s.i + 1)); rw [he] at HS1; clear hS1 he HS HT HN; obtain ⟨si, se⟩ := s; simp only at t0 t1 t2 t3 c1 c2 hi HS1; have hq1 : IntKind.i64.wrap (((si + 1 : Nat) : Int) - 1) = (si : Int) := by rw [IntWalk.i64_in _ o_]; omega
   go_wp2
   go_region
   go_wp2
   exact w_c
  ·have hb : (tk0 != 2) = true := by simpa using hk
   have HR := a_0 (HX.out.trans (if_neg (fun h => hk h.2))); clear HX hk; rw [HR.out]; clear HR
   go_enter func268, ntmps268
   go_wp2_with fail
   refine HN.out.mono ?_; rintro e w1 ⟨rfl, hb1⟩; have HQ := a_0 (QPost.of_below HS.out hb1); clear hb1 HN
   go_wp2_with fail
   refine (g_C w1 P A ts c s HQ.out.pt 3).mono ?_; rintro e w2 ⟨rfl, hq2⟩
   go_wp2
   go_ret
   exact ⟨rfl, HQ.out.trans hq2⟩
 ·have hb : (s.e != 0) = true := by simpa using he
  have HR := a_0 (HX.out.trans (if_neg (fun h => he h.1)))
  clear HX he
  rw [HR.out]
  clear HR HN
  go_enter func268, ntmps268
  go_wp2_with fail
  refine (g_C W P A ts c s HS.out 3).mono ?_
  rintro e w2 ⟨rfl, hq2⟩
  go_wp2
  go_ret
  exact ⟨rfl, hq2⟩
def s_p (ts : List Tok) (P : Nat) (m : Value) (w : World) : Nat := match m, w.cell? ⟨P, 1, none⟩ with
 | .bool true, some (.int _ a) => ts.length - a.toNat + 1
 | _, _ => 0
theorem i_W {α : Type} (K : Nat) (lb : Array Value) (P : Nat) (A : Option Addr) (ts : List Tok) (c : Nat) (hv : a_O ts = true) (hl : ts.length ≤ 1000000) (C : World → α → Prop) (part : α → QSt → α × QSt) (hgo : f_5 ts part)
  (len : α → Nat) (hlen : ∀ x s, len (part x s).1 ≤ len x + 1) (M : Nat)
  (hcf : ∀ args W, (callFunc K args).run prog W = .ok (.enter K args) W)
  (hC : ∀ W W' x s, QPt QT W P A ts c s → C W x → W.grownBy W' (some P) → C W' x)
  (hP : ∀ W x s, QPt QT W P A ts c s → C W x → s.e = 0 → s.i < ts.length → len x ≤ M → Calls prog K lb W fun e w' => e = .returned (.tuple #[]) ∧ QPt QT w' P A ts c (part x s).2 ∧ C w' (part x s).1)
  (W : World) (x : α) (s : QSt) (hS : QPt QT W P A ts c s) (hx : C W x) (hi : s.i < ts.length) (hM : len x + ts.length ≤ M + s.i) :
  Calls prog 234 #[.pointer (some ⟨P, 0, none⟩), .func (.func K) #[] lb] W fun e w' => e = .returned (.tuple #[]) ∧ QPt QT w' P A ts c (a_z false ts part x s).2 ∧ C w' (a_z false ts part x s).1 := by
 have HStart := a_0 (show ∃ G, ts.length < s.i + G ∧ (if s.e ≠ 0 then (x, s) else d_1 ts part G x s) = a_z false ts part x s from ⟨ts.length + 1, o_, by unfold a_z; simp⟩)
 have HP := a_0 hP
 have HC := a_0 hC
 have HG := a_0 hgo
 have HL := a_0 hlen
 have HS := a_0 hS
 have HX := a_0 hx
 clear hP hC hgo hlen hS hx
 generalize a_z false ts part x s = R at *
 go_enter func234, ntmps234
 go_wp2
 go_loopw [4] (fun m wr => ∃ (y : α) (t : QSt), Hid (QPt QT wr P A ts c t) ∧ Hid (C wr y) ∧ t.i < ts.length ∧ ((m = .bool true ∧ len y + ts.length ≤ M + t.i ∧ Hid (∃ G, ts.length < t.i + G ∧ (if t.e ≠ 0 then (y, t) else d_1 ts part G y t) = R)) ∨ (m = .bool false ∧ Hid ((y, t) = R)))) (fun m wr => s_p ts P m wr)
 case atStart => exact ⟨x, s, HS, HX, hi, .inl ⟨rfl, hM, HStart⟩⟩
 case round =>
  clear HS HX hi hM HStart
  obtain ⟨y, t, HS, HX, hi, hcase⟩ := hrel
  obtain ⟨c0, c1, c2⟩ := HS.out.cells
  have hPr := HS.out.lt
  rcases hcase with ⟨rfl, hM, HE⟩ | ⟨rfl, HE⟩
  ·by_cases he : t.e = 0
   ·have hcall := HP.out wr y t HS.out HX.out he hi o_
    have hg := HG.out y t hi; have hln := HL.out y t; obtain ⟨G, hG, hE⟩ := HE.out; rw [if_neg (by simp [he])] at hE; have hms : s_p ts P (.bool true) wr = ts.length - t.i + 1 := by unfold s_p; rw [c1]; simp
    rw [he] at c2
    cases G with
    | zero => omega
    | succ G =>
    unfold d_1 at hE; have HE2 := a_0 hE; clear HE hE c1 HX HS; generalize part y t = r at *; obtain ⟨y2, t2⟩ := r; simp only at hcall hln hg HE2
    by_cases hb : isT ts t2 5 b_t = true
    ·have ht0 := (b_3 hb).1
     have hmo := (hg.mono ht0).2; have hnx := b_e hv (hg.lt hi) d_ hb
     have HSk := a_0 (fun (W' : World) (h : QPt QT W' P A ts c t2) => show Calls prog 112 #[.pointer (some ⟨P, 0, none⟩), .int .i64 5, str [44]] W' (fun e' w' => e' = .returned (.bool true) ∧ QPost QT W' P A ts c ⟨t2.i + 1, 0⟩ w') from by
      have := h_Z W' P A ts c t2 h (hg.lt hi) hl 5 b_t; rw [hb] at this; simp only [↓reduceIte] at this
      exact this)
     simp only [hb, ↓reduceIte] at HE2; clear hb hg
     go_wp2_with (go_at_fn K; refine hcall.mono ?_; rintro e w1 ⟨rfl, hq, hc⟩; have HQ := a_0 hq; have HXc := a_0 hc; clear hq hc)
     refine (HSk.out w1 HQ.out).mono ?_; rintro e w2 ⟨rfl, hq2⟩; have HQ2 := a_0 hq2; clear hq2
     go_wp2
     refine ⟨⟨y2, ⟨t2.i + 1, 0⟩, a_0 HQ2.out.pt, a_0 (HC.out _ _ _ _ HQ.out HXc.out HQ2.out.gr), hnx, .inl ⟨rfl, z_, a_0 ⟨G, z_, by simpa using HE2.out⟩⟩⟩, ?_⟩; obtain ⟨d0, d1, d2⟩ := HQ2.out.pt.cells; rw [hms]; unfold s_p; rw [d1]
     simp
     omega
    ·have hbf : isT ts t2 5 b_t = false := by simpa using hb
     have HSk := a_0 (fun (W' : World) (h : QPt QT W' P A ts c t2) => show Calls prog 112 #[.pointer (some ⟨P, 0, none⟩), .int .i64 5, str [44]] W' (fun e' w' => e' = .returned (.bool false) ∧ QPost QT W' P A ts c t2 w') from by
      have := h_Z W' P A ts c t2 h (hg.lt hi) hl 5 b_t; rw [hbf] at this; simp only [Bool.false_eq_true, ↓reduceIte] at this
      exact this)
     have hi2 := hg.lt hi; simp only [hbf, Bool.false_eq_true, ↓reduceIte] at HE2; clear hb hg hbf
     go_wp2_with (go_at_fn K; refine hcall.mono ?_; rintro e w1 ⟨rfl, hq, hc⟩; have HQ := a_0 hq; have HXc := a_0 hc; clear hq hc)
     refine (HSk.out w1 HQ.out).mono ?_; rintro e w2 ⟨rfl, hq2⟩; have HQ2 := a_0 hq2; clear hq2
     go_wp2
     refine ⟨⟨y2, t2, a_0 HQ2.out.pt, a_0 (HC.out _ _ _ _ HQ.out HXc.out HQ2.out.gr), hi2, .inr ⟨rfl, HE2⟩⟩, ?_⟩; rw [hms]
     simp [s_p]
   ·have heb : (t.e == 0) = false := beq_eq_false_iff_ne.2 he
    obtain ⟨G, hG, hE⟩ := HE.out; rw [if_pos he] at hE; have HE2 := a_0 hE; clear hE HE he
    go_wp2
    go_end0
    rw [← HE2.out]; exact ⟨rfl, HS.out, HX.out⟩
  ·have HE2 := HE
   clear HE
   go_wp2
   go_end0
   rw [← HE2.out]; exact ⟨rfl, HS.out, HX.out⟩
set_option maxRecDepth 512
theorem Tryz.info_txt : (prog.info? 9).map (fun i => (i.zero, i.size, i.bytes)) = some (some (.string ⟨#[]⟩), 1, 16) := by kernel_rfl
theorem Tryz.info_it : (prog.info? 61).map (fun i => (i.zero, i.size, i.bytes)) = some (some (.agg #[.string ⟨#[]⟩, .int .i64 0, .string ⟨#[]⟩, .int .i64 0, .slice none 0 0]), 5, 72) := by kernel_rfl
abbrev a_G (P : Nat) : Value := .pointer (some ⟨P, 0, none⟩)
theorem a_r {W w' : World} {P b : Nat} {o : Obj} (h : W.grownBy w' (some P)) (hc : W.heap[b]? = some o) (hb : b ≠ P) : w'.heap[b]? = some o :=
 (h.block b (a_6 hc) (by intro e; injection e with e; exact hb e)).trans hc
theorem c_F {W w3 w4 : World} {P b : Nat} {row : Option Nat} {o : Obj} (hb : W.heap[b]? = some o) (hg : W.grownBy w3 (some P)) (hP : b ≠ P) (g4 : w3.grownBy w4 row) (hr : ∀ k, row = some k → b < k) : w4.heap[b]? = some o :=
 have h3 := a_r hg hb hP
 (g4.block b (a_6 h3) (fun e => by have := hr b e.symm; omega)).trans h3
theorem b_1 {w : World} {b : Nat} {cs : Array Value} {t : TypeId} (h : w.heap[b]? = some (.cells cs t (0, 0))) (o : Nat) : w.frozen? ⟨b, o, none⟩ = false := by simp [World.frozen?, h]
structure PBox (W0 : World) (P Bp : Nat) (W : World) : Prop where
 gr : W0.grownBy W (some P)
 lt : P < W0.heap.size
 le : P < Bp
 box : W.heap[Bp]? = some (.cells #[a_G P] 88 (0, 0))
theorem PBox.step {W0 : World} {P Bp : Nat} {W W' : World} (h : PBox W0 P Bp W) (hg : W.grownBy W' (some P)) : PBox W0 P Bp W' :=
 ⟨h.gr.trans hg, h.lt, h.le, a_r hg h.box (by have := h.lt; have := h.le; omega)⟩
structure NmC (W0 : World) (P Bp Bl : Nat) (W : World) (c : List a_3) : Prop where
 pb : PBox W0 P Bp W
 w0 : W0.heap.size ≤ Bl
 ne : Bp < Bl
 row : ∃ B n, W.heap[Bl]? = some (.cells #[.slice B c.length n] 23 (0, 0)) ∧ W.ownsRow (Bl + 1) 9 1 (.slice B c.length n) c.length (c.map str)
theorem NmC.step {W0 : World} {P Bp Bl : Nat} {W W' : World} {c : List a_3} (h : NmC W0 P Bp Bl W c) (hg : W.grownBy W' (some P)) : NmC W0 P Bp Bl W' c := by
 refine p_T ?_; intro h1 h2 h3
 obtain ⟨B, n, hb, ho⟩ := h.row
 exact ⟨h.pb.step hg, h.w0, h3, B, n, a_r hg hb o_, a_v ho hg o_⟩
theorem NmC.done {W0 W w3 w4 : World} {P Bp Bl n' cc : Nat} {A B' : Option Addr} {ts : List Tok} {s : QSt} {row : Option Nat} {c : List a_3} {x : a_3} (h : NmC W0 P Bp Bl W c) (hq : QPt QT w3 P A ts cc s) (hg : W.grownBy w3 (some P)) (g4 : w3.grownBy w4 row) (hr : ∀ k, row = some k → Bl < k)
  (o4 : w4.ownsRow (Bl + 1) 9 1 (.slice B' (c.length + 1) n') (c.length + 1) (c.map str ++ [str x])) :
  QPt QT (w4.setCell ⟨Bl, 0, none⟩ (.slice B' (c.length + 1) n')) P A ts cc s ∧ NmC W0 P Bp Bl (w4.setCell ⟨Bl, 0, none⟩ (.slice B' (c.length + 1) n')) (c ++ [x]) := by
 obtain ⟨B, n, hb, _⟩ := h.row
 refine p_T ?_; intro h1 h2 h3
 have h4 := h.w0
 have hW0 := h.pb.gr.trans hg
 have b3 := a_r hg hb o_
 have b4 := (g4.block Bl (a_6 b3) (fun e => by have := hr Bl e.symm; omega)).trans b3
 have p3 := a_r hg h.pb.box o_
 have p4 := (g4.block Bp (a_6 p3) (fun e => by have := hr Bp e.symm; omega)).trans p3
 have g5 : w4.grownBy (w4.setCell ⟨Bl, 0, none⟩ (.slice B' (c.length + 1) n')) (some Bl) := a_d (g_ _ _) _ _
 have z0 := h.pb.gr.size
 refine ⟨(hq.gr g4 (fun j e => by have := hr j e; omega)).gr g5 (fun j e => by injection e with e; omega), ⟨⟨(hW0.andThen g4 (fun j e => .inl (by have := hr j e; omega))).andThen g5 (fun j e => .inl j_), h1, h2, ?_⟩, h4, h3, B', n', ?_, ?_⟩⟩
 ·exact (g5.block Bp (a_6 p4) (fun e => by injection e with e; omega)).trans p4
 ·have := heap_setCell_same w4 Bl 0 _ _ (.slice B' (c.length + 1) n') b4
  simpa using this
 ·have := a_v o4 g5 (Nat.lt_succ_self _)
  simpa using this
set_option maxRecDepth 100000
theorem p_h (W0 W : World) (P Bp Bl : Nat) (A : Option Addr) (ts : List Tok) (cc : Nat) (c : List a_3) (s : QSt) (hS : QPt QT W P A ts cc s) (hC : NmC W0 P Bp Bl W c) (hi : s.i < ts.length) (hl : ts.length ≤ 1000000) (hc : c.length ≤ 2000000) :
  Calls prog 237 #[a_G Bl, a_G Bp] W fun e w' => e = .returned (.tuple #[]) ∧ QPt QT w' P A ts cc (f_J ts c s).2 ∧ NmC W0 P Bp Bl w' (f_J ts c s).1 := by
 obtain ⟨i0, hi0, hz0, hz1, hz2⟩ := info_parts Tryz.info_txt
 have h1 := hC.pb.lt
 have h2 := hC.pb.le
 have h3 := hC.ne
 have hb1 := a_2 hC.pb.box 0
 have hbl1 := a_6 hC.pb.box
 have HC := a_0 hC
 obtain ⟨B, n, hbl, ho⟩ := hC.row
 have hbl0 := a_2 hbl 0
 have hbl2 := a_6 hbl
 have hlt := a_0 (fun j e => (ho.lt j e).1)
 have HO := a_0 ho
 have HB := a_0 hbl
 have HBp := a_0 hC.pb.box
 refine t_N ?_; intro HN
 clear hS hC ho hbl
 unfold f_J
 generalize a_7 ts s = r at *
 obtain ⟨x, s'⟩ := r
 simp only at HN ⊢
 simp at hb1 hbl0
 go_enter func237, ntmps237
 (go_region_law (first
  | (go_simp; go_at_call 110; refine (HN.out _ zX).mono ?_; rintro e w1 ⟨rfl, hq1⟩; have g1 := (a_1 (r := some P) (show Below W.heap.size W _ from zX)).trans hq1.gr; have HQ1 := a_0 hq1.pt; have HG1 := a_0 g1; have hz1' := g1.size; have l1 : Bl < w1.heap.size := Nat.lt_of_lt_of_le hbl2 hz1'; have l2 : Bp < w1.heap.size := Nat.lt_of_lt_of_le hbl1 hz1'; have e1 := a_2 (a_r g1 HB.out o_) 0; have e2 := a_2 (a_r g1 HBp.out o_) 0; simp at e1 e2; have HO1 := a_0 (a_v HO.out g1 o_); clear hq1 g1)
  | (refine c_C r_ _ _ _ r_ (Bl + 1) 9 i0 _ 1 16 underlying23 hi0 hz0 hz1 hz2 rfl o_ _ _ _ r_ (a_8 HO1.out zX) ⟨_, 0, none⟩ 1 1 [str x] r_ rfl (by exact d_L (b_d s_)) c_ x_ o_ m_ ?_; intro v4 w4 o4 g4; obtain ⟨B4, n4, rfl⟩ := a_i o4; have b4 := c_F HB.out (a_h HG1.out zX) o_ g4 (fun j e => hlt.out j e); have d0 := a_2 b4 0; have d1 := b_1 b4 0; simp at d0; have HF := a_0 (NmC.done HC.out (HQ1.out.below zX) (a_h HG1.out zX) g4 (fun j e => hlt.out j e) o4); clear o4 g4)))
 all_goals
  go_wp2
  go_end0
  exact ⟨rfl, HF.out⟩
theorem j_p (W : World) (P : Nat) (A : Option Addr) (ts : List Tok) (cc : Nat) (s : QSt) (hv : a_O ts = true) (hS : QPt QT W P A ts cc s) (hi : s.i < ts.length) (hl : ts.length ≤ 1000000) :
  Calls prog 177 #[a_G P] W fun e w' => (∃ B n, e = .returned (.slice B (a_u false ts s).1.length n) ∧ w'.ownsRow W.heap.size 9 1 (.slice B (a_u false ts s).1.length n) (a_u false ts s).1.length ((a_u false ts s).1.map str)) ∧ QPost QT W P A ts cc (a_u false ts s).2 w' := by
 have hP := hS.lt
 have HE := a_0 (fun (w1 : World) (h1 : NmC W P W.heap.size (W.heap.size + 1) w1 []) (h2 : QPt QT w1 P A ts cc s) => i_W 237 #[a_G (W.heap.size + 1), a_G W.heap.size] P A ts cc hv hl (NmC W P W.heap.size (W.heap.size + 1)) (f_J ts) (c_s hv) List.length (fun x s => by simp [f_J]) 2000000
  (fun args W => by kernel_rfl) (fun W W' x s _ h g => h.step g) (fun W x s h1 h2 h3 h4 h5 => p_h _ W P _ _ A ts cc x s h1 h2 h4 hl h5) w1 [] s h2 h1 hi m_)
 have HS := a_0 hS
 clear hS
 have HI := a_0 (show NmC W P W.heap.size (W.heap.size + 1) ((W.alloc (.cells #[a_G P] 88)).alloc (.cells #[.slice none 0 0] 23)) [] from
  ⟨⟨a_1 zX, hP, hP, ((Below.alloc (b_ _ (W.alloc (.cells #[a_G P] 88))) (l_ _) _).block W.heap.size s_).trans (heap_alloc_new W _)⟩, Nat.le_succ _, Nat.lt_succ_self _, none, 0, b_d s_, a_o _ _ _ _⟩)
 unfold a_u
 generalize a_z false ts (f_J ts) [] s = r at *
 obtain ⟨c, s'⟩ := r
 simp only at HE ⊢
 go_enter func177, ntmps177
 go_wp2_with fail
 refine (HE.out _ HI.out (HS.out.below zX)).mono ?_
 rintro e w1 ⟨rfl, hq, hc⟩
 obtain ⟨B, n, hb, ho⟩ := hc.row
 have hb0 := a_2 hb 0
 have hlt := a_6 hb
 simp at hb0
 have HQ := a_0 hq
 have HG := a_0 hc.pb.gr
 have HO := a_0 (a_Z (b2 := W.heap.size) ho o_)
 clear hq hc ho hb
 go_wp2
 go_ret
 exact ⟨⟨B, n, rfl, HO.out⟩, HQ.out, HG.out⟩
end
section
open Go.RowKit Go.WideMaps Go.Maps
set_option maxRecDepth 100000
theorem h_J {w w' : World} {L : List (a_3 × Int)} {B n : Nat} (h : w.ownsMap prog 9 (plainElem prog 3) B n (f_s f_q L)) (hb : Below w.heap.size w w') : w'.ownsMap prog 9 (plainElem prog 3) B n (f_s f_q L) :=
 h.kept (row := none) ⟨hb.os, hb.tape, hb.output, hb.size, fun k hk _ => hb.block k hk⟩ s_
theorem h_5 (s p : a_3) (w : World) (h : s.length + p.length ≤ 130000000) : Calls prog 132 #[str s, str p] w fun e w' => e = .returned (str (i_g s p)) ∧ Below w.heap.size w w' := by
 by_cases hp : p = []
 ·subst hp
  go_enter func132, ntmps132
  go_wp2
  go_ret
  exact ⟨by simp [i_g], b_ _ _⟩
 ·have heb : p.isEmpty = false := by cases p with | nil => exact absurd rfl hp | cons _ _ => rfl
  have HX := a_0 (show i_g s p = s ++ [32] ++ p from if_neg hp)
  clear hp
  go_enter func132, ntmps132
  go_wp2
  go_ret
  rw [HX.out]
  exact ⟨by simp [d_S], b_ _ _⟩
theorem q_n (B : Nat) (w : World) : Calls prog 133 #[.map (some B)] w fun e w' => e = .returned (.func (.func 204) #[] #[a_G w.heap.size]) ∧ w'.cell? ⟨w.heap.size, 0, none⟩ = some (.map (some B)) ∧ w.heap.size < w'.heap.size ∧ Below w.heap.size w w' := by
 refine p_0 ?_; intro hmf
 have HC := a_0 (show (w.alloc (.cells #[.map (some B)] 152)).cell? ⟨w.heap.size, 0, none⟩ = some (.map (some B)) from a_2 (heap_alloc_new w _) 0)
 go_enter func133, ntmps133
 go_wp2
 go_ret
 exact ⟨rfl, HC.out, s_, zX⟩
theorem n_f (L : List (a_3 × Int)) (wd : a_3) (x : It) (h1 : d_2 L wd = x.fn) (h2 : ∀ z, d_2 L z = x.fn → z = wd) (hh : Maps.has (f_s f_q L) (.string wd) = true) (hwd : wd.length ≤ 100) (hcol : x.col.length ≤ 100) (hnum : 0 ≤ x.num ∧ x.num ≤ 4096)
  (E : Option Addr) (ec Bw B n : Nat) (w : World) (hG : GlobJ w) (hB : w.cell? ⟨Bw, 0, none⟩ = some (.map (some B))) (hBw : Bw < w.heap.size) (hM : w.ownsMap prog 9 (plainElem prog 3) B n (f_s f_q L)) :
  Calls prog 204 #[itV x E ec, a_G Bw] w fun e w' => e = .returned (str (wd ++ [40] ++ x.col ++ r_b x.num ++ [41])) ∧ Below w.heap.size w w' := by
 obtain ⟨x0, f, x2, m, x4⟩ := x
 simp only at h1 h2 hcol hnum ⊢
 have HW := a_0 (fun W (hb : Below w.heap.size w W) => m_S L wd f h1 h2 hh B n W (h_J hM hb))
 have HT := a_0 (fun W (hb : Below w.heap.size w W) => o_g m W (hG.below hb) o_ o_)
 have hdl : (Lib.decDigits m.toNat).length ≤ 100 := g_I o_
 have hmn : ¬ m < 0 := by omega
 rw [if_neg hmn] at HT
 have HN := a_0 (show r_b m = if m = 0 then [] else [44, 32] ++ Lib.decDigits m.toNat from rfl)
 have HC := a_0 (fun W (hb : Below w.heap.size w W) => (hb.cell (p := ⟨Bw, 0, none⟩) hBw).trans hB)
 clear h1 h2 hh hG hB hM hmn
 generalize Lib.decDigits m.toNat = d at *
 go_enter func204, ntmps204
 go_wp2
 obtain ⟨W1, hW1⟩ : ∃ W1, W1 = w.alloc (.cells #[str x0, .int .i64 f, str x2, .int .i64 m, .slice E x4.length ec] 61) := ⟨_, rfl⟩
 have HK := a_0 (fun w' (hb : Below W1.heap.size W1 w') => show w'.cell? ⟨Bw, 0, none⟩ = some (.map (some B)) ∧ w'.cell? ⟨w.heap.size, 1, none⟩ = some (.int .i64 f) ∧ w'.cell? ⟨w.heap.size, 2, none⟩ = some (str x2) ∧ w'.cell? ⟨w.heap.size, 3, none⟩ = some (.int .i64 m) from by
  have hz : W1.heap.size = w.heap.size + 1 := by rw [hW1]; simp
  have h0 : W1.heap[w.heap.size]? = some (.cells #[str x0, .int .i64 f, str x2, .int .i64 m, .slice E x4.length ec] 61) := by rw [hW1]; exact heap_alloc_new w _
  exact ⟨HC.out _ ((show Below w.heap.size w W1 from by rw [hW1]; exact zX).trans (hb.mono o_)), (hb.cell (p := ⟨w.heap.size, 1, none⟩) (show w.heap.size < _ by omega)).trans (a_2 h0 1), (hb.cell (p := ⟨w.heap.size, 2, none⟩) (show w.heap.size < _ by omega)).trans (a_2 h0 2), (hb.cell (p := ⟨w.heap.size, 3, none⟩) (show w.heap.size < _ by omega)).trans (a_2 h0 3)⟩)
 have f1 : ¬ 9223372036854775807 < wd.length + 1 := by omega
 have f2 : ¬ 9223372036854775807 < wd.length + 1 + x2.length := by omega
 have hbW : Below w.heap.size w W1 := by rw [hW1]; exact zX
 have hzW : w.heap.size < W1.heap.size := by rw [hW1]; simp
 rw [← hW1]
 clear hW1
 go_region_held3 (fun w' => w'.cell? ⟨Bw, 0, none⟩ = some (.map (some B)) ∧ w'.cell? ⟨w.heap.size, 1, none⟩ = some (.int .i64 f) ∧ w'.cell? ⟨w.heap.size, 2, none⟩ = some (str x2) ∧ w'.cell? ⟨w.heap.size, 3, none⟩ = some (.int .i64 m))
  (first | exact HK.out _ (by first | exact hb7 | exact zX))
  ((go_at_call 205; refine (HW.out _ (by first | exact hbW | exact zX)).mono ?_; rintro e w5 ⟨rfl, hb6⟩; have hb7 : Below W1.heap.size W1 w5 := a_n hb6 zX; have hb5 : Below w.heap.size w w5 := a_n hb7 hbW))
 all_goals
  have h3 := (HK.out _ hb7).2.2.2
  by_cases hm : m = 0
  ·subst hm
   go_wp2
   go_ret
   exact ⟨by rw [HN.out]; simp [d_S], hb5⟩
  ·have hmb : (m != 0) = true := by simpa using hm
   have HN2 := a_0 (HN.out.trans (if_neg hm)); clear hm
   go_wp2_with (go_at_call 206; refine (HT.out _ hb5).mono ?_; rintro e w7 ⟨rfl, hb8⟩; have hb9 : Below w.heap.size w w7 := a_n hb8 hb5)
   go_ret
   exact ⟨by rw [HN2.out]; simp [d_S], hb9⟩
theorem j_r (rf : It → a_3) (Bw : Nat) (A : Option Addr) (c : Nat) (l : List It) (w : World) (hA : f_r w A l) (hl : l.length ≤ 12) (hb : ∀ x ∈ l, x.name.length ≤ 24 ∧ (rf x).length ≤ 100000)
  (hr : ∀ W x E ec, x ∈ l → Below w.heap.size w W → c_L W E x.expr → Calls prog 204 #[itV x E ec, a_G Bw] W fun e w' => e = .returned (str (rf x)) ∧ Below W.heap.size W w') :
  Calls prog 129 #[.slice A l.length c, .func (.func 204) #[] #[a_G Bw]] w fun e w' => e = .returned (str (g_f (l.map fun x => x.name ++ wAs ++ rf x))) ∧ Below w.heap.size w w' := by
 obtain ⟨i0, hi0, hz0, hz1, hz2⟩ := info_parts Tryz.info_txt
 have HA := a_0 hA
 have HR := a_0 hr
 have HL := a_0 hb
 have hlen : (g_f (l.map fun x => x.name ++ wAs ++ rf x)).length ≤ 2000000 := by
  have h := j_b (M := 100027) (l := l.map fun x => x.name ++ wAs ++ rf x) (fun y hy => by
   obtain ⟨x, hx, rfl⟩ := List.mem_map.1 hy; have := hb x hx; simp only [List.length_append, wAs, List.length_cons, List.length_nil]
   omega) (by simpa using hl)
  omega
 obtain ⟨F, hF⟩ : ∃ F : It → a_3, F = fun x => x.name ++ wAs ++ rf x := ⟨_, rfl⟩
 rw [← hF] at hlen ⊢
 have HF := a_0 hF
 have HLen := a_0 hlen
 clear hA hr hb hF hlen
 go_enter func129, ntmps129
 go_wp2_with fail
 go_loopw [5, 10] (fun s5 s10 wr => ∃ (k : Nat) (A' : Option Addr) (c' : Nat), s5 = .slice A' k c' ∧ s10 = .int .i64 k ∧ k ≤ l.length ∧ Hid (wr.ownsRow w.heap.size 9 1 (.slice A' k c') k (((l.take k).map F).map str)) ∧ Hid (Below w.heap.size w wr)) (fun _ i _ => l.length - (intOf i).toNat)
 case atStart => exact ⟨0, none, 0, rfl, rfl, Nat.zero_le _, a_0 (a_o _ _ _ _), a_0 (b_ _ _)⟩
 case round =>
  obtain ⟨k, A', c', rfl, rfl, hk, HO, HB⟩ := hrel
  have hzr := HB.out.size
  have hbw := HB.out
  by_cases hlt : k < l.length
  ·rcases HA.out with e | ⟨g, off, rfl, hg, hc⟩
   ·exact absurd hlt e_
   obtain ⟨a0, a1, a2, a3, E, ec, a4, hE⟩ := hc k hlt; have HC := a_0 (fun W (hb : Below w.heap.size w W) => HR.out W l[k] E ec s_ hb (hE.below hb)); have h24 := HL.out l[k] s_
   have HK := a_0 (show ((l.take (k + 1)).map F).map str = ((l.take k).map F).map str ++ [str (l[k].name ++ wAs ++ rf l[k])] from by
    rw [List.take_succ_eq_append_getElem hlt, List.map_append, List.map_append, HF.out]; rfl)
   refine s_o ?_; intro hkI; replace a0 := (hbw.cell (p := ⟨g, _, none⟩) hg).trans a0; replace a1 := (hbw.cell (p := ⟨g, _, none⟩) hg).trans a1; replace a2 := (hbw.cell (p := ⟨g, _, none⟩) hg).trans a2; replace a3 := (hbw.cell (p := ⟨g, _, none⟩) hg).trans a3; replace a4 := (hbw.cell (p := ⟨g, _, none⟩) hg).trans a4; clear hc hE; generalize l[k] = y at *; generalize rf y = q at *; obtain ⟨y0, y1, y2, y3, y4⟩ := y; simp only at a0 a1 a2 a3 a4 HC h24 HK; have f1 : ¬ 9223372036854775807 < y0.length + 3 := by omega
   have f2 : ¬ 9223372036854775807 < y0.length + 3 + q.length := by omega
   go_upto_region 5 with fail
   (go_region_law (first
    | (go_simp; go_at_call 204; refine (HC.out _ zX).mono ?_; rintro e w6 ⟨rfl, hb6⟩; have hb7 : Below w.heap.size w w6 := a_n hb6 zX; have hz7 := hb7.size; have m0 : w6.cell? ⟨wr.heap.size, 0, none⟩ = some (str y0) := (hb6.cell (p := ⟨wr.heap.size, 0, none⟩) n_).trans (by go_simp); have HO6 := a_0 (a_8 HO.out (a_n hb6 zX)); clear hb6 hbw)
    | (refine c_C r_ _ _ _ r_ w.heap.size 9 i0 _ 1 16 underlying23 hi0 hz0 hz1 hz2 rfl o_ _ _ _ r_ (a_8 HO6.out zX) ⟨_, 0, none⟩ 1 1 [_] r_ rfl (by exact d_L (b_d s_)) c_ x_ o_ m_ ?_; intro v4 w5 o4 g4; obtain ⟨B4, n4, rfl⟩ := a_i o4; have hb5 : Below w.heap.size w w5 := (show Below w.heap.size w _ from zX).grown g4 m_ (fun k e => ((a_8 HO6.out zX).lt k e).1))))
   all_goals
    have e9 : Value.string ((⟨y0.toArray⟩ : ByteArray) ++ ⟨#[32, 61, 32]⟩ ++ ⟨q.toArray⟩) = str (y0 ++ wAs ++ q) := by simp [d_S, wAs]
    have HO5 := a_0 (show w5.ownsRow w.heap.size 9 1 (.slice B4 (k + 1) n4) (k + 1) (((l.take (k + 1)).map F).map str) from by rw [HK.out, ← e9]; exact o4); have HB5 := a_0 hb5; clear o4 g4 e9
    try simp only [List.getElem_toArray, List.getElem_cons_succ, List.getElem_cons_zero, Act.put, List.setIfInBounds_toArray, List.set_cons_zero, List.set_cons_succ]
    go_wp2
    exact ⟨⟨k + 1, B4, n4, rfl, s_, o_, HO5, HB5⟩, w_⟩
  ·have hkl : k = l.length := by omega
   subst hkl; have HJ := a_0 (n_P A' c' l.length (l.map F) wr w.heap.size s_ o_ (by have := HO.out; rw [List.take_length] at this; exact this) (by have := HLen.out; unfold g_f at this; omega))
   go_wp2_with fail
   refine HJ.out.mono ?_; rintro e w6 ⟨rfl, hb6⟩; have hb7 : Below w.heap.size w w6 := a_n hb6 hbw
   go_wp2
   go_ret
   exact ⟨rfl, hb7⟩
def d_r (w : World) : Prop := 1 < w.heap.size ∧ ∀ j, j < 13 → w.cell? ⟨1, j, none⟩ = some (str (d_Z.getD j []))
set_option maxRecDepth 100000
theorem d_r.below {w w' : World} (h : d_r w) (hb : Below w.heap.size w w') : d_r w' := ⟨Nat.lt_of_lt_of_le h.1 hb.size, fun j hj => (hb.cell (p := ⟨_, _, none⟩) h.1).trans (h.2 j hj)⟩
theorem k_E : ∀ n, n < 13 → (d_Z.getD n []).length ≤ 8 := by decide
theorem m_u {f : Int} (h : 1 ≤ f ∧ f ≤ 7) : d_2 d_y (fnQ 11 f) = f ∧ (∀ z, d_2 d_y z = f → z = fnQ 11 f) ∧ Maps.has (f_s f_q d_y) (.string (fnQ 11 f)) = true ∧ (fnQ 11 f).length ≤ 100 := by
 have hc : f = 1 ∨ f = 2 ∨ f = 3 ∨ f = 4 ∨ f = 5 ∨ f = 6 ∨ f = 7 := by omega
 rcases hc with rfl | rfl | rfl | rfl | rfl | rfl | rfl
 all_goals
  refine ⟨d_, fun z hz => ?_, k_, d_⟩
  simp only [d_y, d_2] at hz
  repeat' split at hz
  all_goals first | (exfalso; omega) | (rename_i h9; exact h9)
theorem d_n {f : Int} (h : f = 1 ∨ f = 3 ∨ (8 ≤ f ∧ f ≤ 13)) : d_2 c_g (fnQ 12 f) = f ∧ (∀ z, d_2 c_g z = f → z = fnQ 12 f) ∧ Maps.has (f_s f_q c_g) (.string (fnQ 12 f)) = true ∧ (fnQ 12 f).length ≤ 100 := by
 have hc : f = 1 ∨ f = 3 ∨ f = 8 ∨ f = 9 ∨ f = 10 ∨ f = 11 ∨ f = 12 ∨ f = 13 := by omega
 rcases hc with rfl | rfl | rfl | rfl | rfl | rfl | rfl | rfl
 all_goals
  refine ⟨d_, fun z hz => ?_, k_, d_⟩
  simp only [c_g, d_2] at hz
  repeat' split at hz
  all_goals first | (exfalso; omega) | (rename_i h9; exact h9)
theorem l_c (n : Nat) (hn : n = 0 ∨ n = 8 ∨ n = 9 ∨ n = 10) (src : a_3) (names others : List a_3) (items : List It) (cond : List Nd) (a : Adr) (w : World) (hV : d_r w) (hs : src.length ≤ 49) :
  Calls prog 80 #[(⟨(n : Int), src, names, others, items, cond⟩ : Stp).agg a] w fun e w' => e = .returned (str (i_g (d_Z.getD n []) src)) ∧ Below w.heap.size w w' := by
 have hx := k_E n o_
 have t0 := hV.2 n o_
 have hg := hV.1
 have HB := a_0 (fun W => h_5 (d_Z.getD n []) src W o_)
 have hn13 : (n : Int) < 13 := by omega
 have b1 : ((n : Int) == 1) = false := beq_eq_false_iff_ne.2 o_
 have b2 : ((n : Int) == 2) = false := beq_eq_false_iff_ne.2 o_
 have b3 : ((n : Int) == 3) = false := beq_eq_false_iff_ne.2 o_
 have b4 : ((n : Int) == 4) = false := beq_eq_false_iff_ne.2 o_
 have b5 : ((n : Int) == 5) = false := beq_eq_false_iff_ne.2 o_
 have b6 : ((n : Int) == 6) = false := beq_eq_false_iff_ne.2 o_
 have b7 : ((n : Int) == 7) = false := beq_eq_false_iff_ne.2 o_
 have b11 : ((n : Int) == 11) = false := beq_eq_false_iff_ne.2 o_
 have b12 : ((n : Int) == 12) = false := beq_eq_false_iff_ne.2 o_
 generalize d_Z.getD n [] = x at *
 clear hV hn
 go_enter func80, ntmps80
 go_wp2_with fail
 refine (HB.out _).mono ?_
 rintro e w1 ⟨rfl, hb1⟩
 have hb2 : Below w.heap.size w w1 := a_n hb1 zX
 go_wp2
 go_ret
 exact ⟨rfl, hb2⟩
set_option maxRecDepth 100000
theorem n_w (s p : a_3) : (i_g s p).length ≤ s.length + p.length + 1 := by
 unfold i_g
 split
 ·omega
 ·simp only [List.length_append, List.length_cons, List.length_nil]; omega
theorem r_m {n : Int} (h : 0 ≤ n ∧ n ≤ 4096) : (r_b n).length ≤ 102 := by
 have := g_I (n := n.toNat) o_
 unfold r_b
 split
 ·simp
 ·simp only [List.length_append, List.length_cons, List.length_nil]; omega
theorem r_4 {op : Int} {x : It} (h : (op = 11 ∧ 1 ≤ x.fn ∧ x.fn ≤ 7) ∨ (op = 12 ∧ (x.fn = 1 ∨ x.fn = 3 ∨ (8 ≤ x.fn ∧ x.fn ≤ 13)))) : (fnQ op x.fn).length ≤ 100 := by
 rcases h with ⟨rfl, h⟩ | ⟨rfl, h⟩
 ·exact (m_u h).2.2.2
 ·exact (d_n h).2.2.2
theorem k_g {op : Int} {x : It} (h : ItQ op x) (ho : op = 11 ∨ op = 12) : (f_g op x).length ≤ 100000 := by
 have h1 := r_m h.num
 have h2 := h.col
 have h3 := r_4 (op := op) (x := x) (by rcases ho with rfl | rfl; exact .inl ⟨rfl, h.grp rfl⟩; exact .inr ⟨rfl, h.win rfl⟩)
 unfold f_g
 simp only [List.length_append, List.length_cons, List.length_nil]
 omega
theorem i_y {op : Int} {l : List It} (h : ∀ x ∈ l, ItQ op x) (ho : op = 11 ∨ op = 12) (hl : l.length ≤ 12) : (g_f (l.map fun x => x.name ++ wAs ++ f_g op x)).length ≤ 2000000 := by
 have h9 := j_b (M := 100027) (l := l.map fun x => x.name ++ wAs ++ f_g op x) (fun y hy => by
  obtain ⟨x, hx, rfl⟩ := List.mem_map.1 hy
  have h1 := (h x hx).name
  have h2 := k_g (h x hx) ho
  simp only [List.length_append, wAs, List.length_cons, List.length_nil]
  omega) (by simpa using hl)
 omega
theorem i_q (names others : List a_3) (items : List It) (src : a_3) (cond : List Nd) (a : Adr) (w : World) (hG : GlobJ w) (hV : d_r w) (hN : b_l w a.nA names) (hcn : names.length ≤ a.nC) (hO : b_l w a.oA others) (hco : others.length ≤ a.oC) (hI : f_r w a.iA items)
  (hl : names.length ≤ 12) (hn : ∀ x ∈ names, x.length ≤ 24) (hol : others.length ≤ 12) (hon : ∀ x ∈ others, x.length ≤ 24) (hil : items.length ≤ 12) (hit : ∀ x ∈ items, ItQ 12 x) :
  Calls prog 80 #[(⟨12, src, names, others, items, cond⟩ : Stp).agg a] w fun e w' => e = .returned (str (i_g (i_g (i_g (d_Z.getD 12 []) (g_f names) ++ [32, 98, 121]) (g_f others) ++ [58]) (g_f (items.map fun x => x.name ++ wAs ++ f_g 12 x)))) ∧ Below w.heap.size w w' := by
 obtain ⟨nA, nC, oA, oC, iA, iC, cA, cC⟩ := a
 simp only at hN hcn hO hco hI
 have t0 := hV.2 12 o_
 have hg := hV.1
 have hx1 := k_E 12 o_
 have hj1 := j_b hn hl
 have hj2 := j_b hon hol
 have hjt := i_y hit o_ hil
 have HJ1 := a_0 (fun W (hb : Below w.heap.size w W) => show Calls prog 81 #[.slice nA names.length nC, .string ⟨#[44, 32]⟩] W (fun e w' => e = .returned (str (g_f names)) ∧ Below W.heap.size W w') from i_a nA nC names [44, 32] W (hN.below hb) hcn o_ (by unfold g_f at hj1; omega))
 have HJ2 := a_0 (fun W (hb : Below w.heap.size w W) => show Calls prog 81 #[.slice oA others.length oC, .string ⟨#[44, 32]⟩] W (fun e w' => e = .returned (str (g_f others)) ∧ Below W.heap.size W w') from i_a oA oC others [44, 32] W (hO.below hb) hco o_ (by unfold g_f at hj2; omega))
 have HWs := a_0 (fun W => e_K W)
 have HCa := a_0 (fun B W => q_n B W)
 have HAs := a_0 (fun (W : World) (Bw B n : Nat) (hb : Below w.heap.size w W) (hc : W.cell? ⟨Bw, 0, none⟩ = some (.map (some B))) (hBw : Bw < W.heap.size) (hM : W.ownsMap prog 9 (plainElem prog 3) B n (f_s f_q c_g)) =>
  j_r (f_g 12) Bw iA iC items W (hI.below hb) hil (fun x hx => ⟨(hit x hx).name, k_g (hit x hx) o_⟩) (fun W' x E ec hx hb' hE => n_f c_g (fnQ 12 x.fn) x (d_n ((hit x hx).win rfl)).1 (d_n ((hit x hx).win rfl)).2.1 (d_n ((hit x hx).win rfl)).2.2.1 (d_n ((hit x hx).win rfl)).2.2.2 (by have := (hit x hx).col; omega) (hit x hx).num E ec Bw B n W' (hG.below (hb.trans (hb'.mono hb.size))) ((hb'.cell (p := ⟨Bw, 0, none⟩) hBw).trans hc) (Nat.lt_of_lt_of_le hBw hb'.size) (h_J hM hb')))
 generalize d_Z.getD 12 [] = x at *
 generalize g_f names = j1 at *
 generalize g_f others = j2 at *
 generalize g_f (items.map fun x => x.name ++ wAs ++ f_g 12 x) = jt at *
 have hbl1 := n_w x j1
 have HB1 := a_0 (fun W => h_5 x j1 W o_)
 generalize i_g x j1 = b1 at *
 have HB2 := a_0 (fun W => show Calls prog 132 #[.string (⟨b1.toArray⟩ ++ ⟨#[32, 98, 121]⟩), str j2] W (fun e w' => e = .returned (str (i_g (b1 ++ [32, 98, 121]) j2)) ∧ Below W.heap.size W w') from by
  have h := h_5 (b1 ++ [32, 98, 121]) j2 W (by simp only [List.length_append, List.length_cons, List.length_nil]; omega)
  rw [show str (b1 ++ [32, 98, 121]) = Value.string (⟨b1.toArray⟩ ++ ⟨#[32, 98, 121]⟩) from by simp [d_S]] at h
  exact h)
 have hbl2 := n_w (b1 ++ [32, 98, 121]) j2
 simp only [List.length_append, List.length_cons, List.length_nil] at hbl2
 generalize i_g (b1 ++ [32, 98, 121]) j2 = b2 at *
 have HB3 := a_0 (fun W => show Calls prog 132 #[.string (⟨b2.toArray⟩ ++ ⟨#[58]⟩), str jt] W (fun e w' => e = .returned (str (i_g (b2 ++ [58]) jt)) ∧ Below W.heap.size W w') from by
  have h := h_5 (b2 ++ [58]) jt W (by simp only [List.length_append, List.length_cons, List.length_nil]; omega)
  rw [show str (b2 ++ [58]) = Value.string (⟨b2.toArray⟩ ++ ⟨#[58]⟩) from by simp [d_S]] at h
  exact h)
 have f1 : ¬ 9223372036854775807 < b1.length + 3 := by omega
 have f2 : ¬ 9223372036854775807 < b2.length + 1 := by omega
 have HK := a_0 (fun w' (hb : Below (w.alloc (.cells #[.int .i64 12, str src, .slice nA names.length nC, .slice oA others.length oC, .slice iA items.length iC, .slice cA cond.length cC] 27)).heap.size (w.alloc (.cells #[.int .i64 12, str src, .slice nA names.length nC, .slice oA others.length oC, .slice iA items.length iC, .slice cA cond.length cC] 27)) w') => show w'.cell? ⟨w.heap.size, 2, none⟩ = some (.slice nA names.length nC) ∧ w'.cell? ⟨w.heap.size, 3, none⟩ = some (.slice oA others.length oC) ∧ w'.cell? ⟨w.heap.size, 4, none⟩ = some (.slice iA items.length iC) from
  ⟨(hb.cell (p := ⟨w.heap.size, 2, none⟩) s_).trans (a_2 (heap_alloc_new w _) 2), (hb.cell (p := ⟨w.heap.size, 3, none⟩) s_).trans (a_2 (heap_alloc_new w _) 3), (hb.cell (p := ⟨w.heap.size, 4, none⟩) s_).trans (a_2 (heap_alloc_new w _) 4)⟩)
 have HBW := a_0 (fun w' (hb : Below (w.alloc (.cells #[.int .i64 12, str src, .slice nA names.length nC, .slice oA others.length oC, .slice iA items.length iC, .slice cA cond.length cC] 27)).heap.size (w.alloc (.cells #[.int .i64 12, str src, .slice nA names.length nC, .slice oA others.length oC, .slice iA items.length iC, .slice cA cond.length cC] 27)) w') => show Below w.heap.size w w' from (Below.alloc (b_ _ w) (l_ _) _).trans (hb.mono s_))
 clear hG hV hN hO hI hn hon hit
 go_enter func80, ntmps80
 go_wp2
 go_region_held3 (fun w' => w'.cell? ⟨w.heap.size, 2, none⟩ = some (.slice nA names.length nC) ∧ w'.cell? ⟨w.heap.size, 3, none⟩ = some (.slice oA others.length oC) ∧ w'.cell? ⟨w.heap.size, 4, none⟩ = some (.slice iA items.length iC))
  (first | exact HK.out _ (by first | exact hc9 | exact hc8 | exact hc7 | exact hc6 | exact hc5 | exact hc4 | exact hc3 | exact hc2 | exact hc1 | exact zX))
  ((first
   | (go_at_call 81; refine (HJ1.out _ (HBW.out _ zX)).mono ?_; rintro e w1 ⟨rfl, hb1⟩; have hc1 : Below (w.alloc (.cells #[.int .i64 12, str src, .slice nA names.length nC, .slice oA others.length oC, .slice iA items.length iC, .slice cA cond.length cC] 27)).heap.size (w.alloc (.cells #[.int .i64 12, str src, .slice nA names.length nC, .slice oA others.length oC, .slice iA items.length iC, .slice cA cond.length cC] 27)) w1 := a_n hb1 zX; clear HJ1 hb1)
   | (go_at_call 132; refine (HB1.out _).mono ?_; rintro e w2 ⟨rfl, hb2⟩; have hc2 : Below (w.alloc (.cells #[.int .i64 12, str src, .slice nA names.length nC, .slice oA others.length oC, .slice iA items.length iC, .slice cA cond.length cC] 27)).heap.size (w.alloc (.cells #[.int .i64 12, str src, .slice nA names.length nC, .slice oA others.length oC, .slice iA items.length iC, .slice cA cond.length cC] 27)) w2 := a_n hb2 hc1; clear HB1 hb2)
   | (go_at_call 81; refine (HJ2.out _ (HBW.out _ hc2)).mono ?_; rintro e w3 ⟨rfl, hb3⟩; have hc3 : Below (w.alloc (.cells #[.int .i64 12, str src, .slice nA names.length nC, .slice oA others.length oC, .slice iA items.length iC, .slice cA cond.length cC] 27)).heap.size (w.alloc (.cells #[.int .i64 12, str src, .slice nA names.length nC, .slice oA others.length oC, .slice iA items.length iC, .slice cA cond.length cC] 27)) w3 := a_n hb3 hc2; clear HJ2 hb3)
   | (go_at_call 132; refine (HB2.out _).mono ?_; rintro e w4 ⟨rfl, hb4⟩; have hc4 : Below (w.alloc (.cells #[.int .i64 12, str src, .slice nA names.length nC, .slice oA others.length oC, .slice iA items.length iC, .slice cA cond.length cC] 27)).heap.size (w.alloc (.cells #[.int .i64 12, str src, .slice nA names.length nC, .slice oA others.length oC, .slice iA items.length iC, .slice cA cond.length cC] 27)) w4 := a_n hb4 hc3; clear HB2 hb4)
   | (go_at_call 135; refine (HWs.out _).mono ?_; rintro e w5 ⟨⟨B, n, rfl, hBl, hM⟩, hb5⟩; have hc5 : Below (w.alloc (.cells #[.int .i64 12, str src, .slice nA names.length nC, .slice oA others.length oC, .slice iA items.length iC, .slice cA cond.length cC] 27)).heap.size (w.alloc (.cells #[.int .i64 12, str src, .slice nA names.length nC, .slice oA others.length oC, .slice iA items.length iC, .slice cA cond.length cC] 27)) w5 := a_n hb5 hc4)
   | (go_at_call 133; refine (HCa.out _ _).mono ?_; rintro e w6 ⟨rfl, hcl, hlt, hb6⟩; have hM6 := h_J hM hb6; have hc6 : Below (w.alloc (.cells #[.int .i64 12, str src, .slice nA names.length nC, .slice oA others.length oC, .slice iA items.length iC, .slice cA cond.length cC] 27)).heap.size (w.alloc (.cells #[.int .i64 12, str src, .slice nA names.length nC, .slice oA others.length oC, .slice iA items.length iC, .slice cA cond.length cC] 27)) w6 := a_n hb6 hc5)
   | (go_at_call 129; refine (HAs.out _ _ _ _ (HBW.out _ hc6) hcl hlt hM6).mono ?_; rintro e w7 ⟨rfl, hb7⟩; have hc7 : Below (w.alloc (.cells #[.int .i64 12, str src, .slice nA names.length nC, .slice oA others.length oC, .slice iA items.length iC, .slice cA cond.length cC] 27)).heap.size (w.alloc (.cells #[.int .i64 12, str src, .slice nA names.length nC, .slice oA others.length oC, .slice iA items.length iC, .slice cA cond.length cC] 27)) w7 := a_n hb7 hc6)
   | (go_at_call 132; refine (HB3.out _).mono ?_; rintro e w8 ⟨rfl, hb8⟩; have hc8 : Below (w.alloc (.cells #[.int .i64 12, str src, .slice nA names.length nC, .slice oA others.length oC, .slice iA items.length iC, .slice cA cond.length cC] 27)).heap.size (w.alloc (.cells #[.int .i64 12, str src, .slice nA names.length nC, .slice oA others.length oC, .slice iA items.length iC, .slice cA cond.length cC] 27)) w8 := a_n hb8 hc7)))
 all_goals
  have hz := HBW.out _ hc8
  go_wp2
  go_ret
  exact ⟨rfl, hz⟩
end
section
open Go.RowKit
def b_T : List It → List (Option Addr × Nat) → List Value
 | x :: xs, e :: es => [str x.name, .int .i64 x.fn, str x.col, .int .i64 x.num, .slice e.1 x.expr.length e.2] ++ b_T xs es
 | _, _ => []
theorem i_T : ∀ (xs : List It) (es : List (Option Addr × Nat)) (i : Nat) (h : i < xs.length) (h' : i < es.length) (j : Nat), j < 5 →
  (b_T xs es)[i * 5 + j]? = [str xs[i].name, Value.int .i64 xs[i].fn, str xs[i].col, Value.int .i64 xs[i].num, Value.slice es[i].1 xs[i].expr.length es[i].2][j]?
 | [], _, i, h, _, _, _ => absurd h s_
 | _ :: _, [], i, _, h', _, _ => absurd h' s_
 | x :: xs, e :: es, 0, h, h', j, hj => by
  rw [Nat.zero_mul, Nat.zero_add]
  show ([_, _, _, _, _] ++ b_T xs es)[j]? = _
  rw [List.getElem?_append_left (by simpa using hj)]
  rfl
 | x :: xs, e :: es, i + 1, h, h', j, hj => by
  show ([_, _, _, _, _] ++ b_T xs es)[(i + 1) * 5 + j]? = _
  rw [List.getElem?_append_right m_, show (i + 1) * 5 + j - [str x.name, Value.int .i64 x.fn, str x.col, Value.int .i64 x.num, Value.slice e.1 x.expr.length e.2].length = i * 5 + j by simp; omega]
  exact i_T xs es i (by simpa using h) (by simpa using h') j hj
theorem e_E : ∀ (xs : List It) (es : List (Option Addr × Nat)) (x : It) (e : Option Addr × Nat), es.length = xs.length → b_T (xs ++ [x]) (es ++ [e]) = b_T xs es ++ [str x.name, .int .i64 x.fn, str x.col, .int .i64 x.num, .slice e.1 x.expr.length e.2]
 | [], [], x, e, _ => by simp [b_T]
 | [], _ :: _, _, _, h => by simp at h
 | _ :: _, [], _, _, h => by simp at h
 | y :: xs, d :: es, x, e, h => by
  show [_, _, _, _, _] ++ b_T (xs ++ [x]) (es ++ [e]) = [_, _, _, _, _] ++ b_T xs es ++ _
  rw [e_E xs es x e (by simpa using h), List.append_assoc]
theorem q_R {W : World} {base c : Nat} {B : Option Addr} {xs : List It} {es : List (Option Addr × Nat)} (hl : es.length = xs.length) (ho : W.ownsRow base 61 5 (.slice B xs.length c) xs.length (b_T xs es))
  (hn : ∀ i (h : i < xs.length) (h' : i < es.length), c_L W es[i].1 xs[i].expr) : f_r W B xs := by
 rcases ho.2 with ⟨_, hn⟩ | ⟨g, cap, cur, hv, hg, hh, hnc, hcap, hsz, htk⟩
 ·exact .inl (List.eq_nil_of_length_eq_zero hn)
 ·injection hv with h1 h2 h3
  subst h1
  refine .inr ⟨g, 0, rfl, a_6 hh, fun i hi => ?_⟩
  have hi' : i < es.length := by omega
  have hc : ∀ j, j < 5 → W.cell? ⟨g, 0 + i * 5 + j, none⟩ = [str xs[i].name, Value.int .i64 xs[i].fn, str xs[i].col, Value.int .i64 xs[i].num, Value.slice es[i].1 xs[i].expr.length es[i].2][j]? := fun j hj => by
   rw [← i_T xs es i hi hi' j hj, Nat.zero_add]; exact World.ownsRow.cellAt ho (i * 5 + j) o_
  exact ⟨hc 0 o_, hc 1 o_, hc 2 o_, hc 3 o_, es[i].1, es[i].2, hc 4 o_, hn i hi hi'⟩
theorem f_k {W : World} {B : Nat} {a b c d e : Value} {t : TypeId} (h : W.heap[B]? = some (.cells #[a, b, c, d, e] t)) : ∀ (j : Nat) (u : Value), [a, b, c, d, e][j]? = some u → W.cell? ((⟨B, 0, none⟩ : Addr).add j) = some u := by
 intro j u hu
 rw [show ((⟨B, 0, none⟩ : Addr).add j) = ⟨B, j, none⟩ from by unfold Addr.add; split <;> simp_all, a_2 h j]
 simpa using hu
end
end Go.Proofs.YtmbeeefkpgfgmaaGreatDoor
