/- Parts of the proof. -/
import Derived.Test.YtmbeeefkpgfgmaaGreatDoorPp35
set_option linter.unusedVariables false
set_option linter.unusedSimpArgs false
set_option maxHeartbeats 16000000
namespace Go.Proofs.YtmbeeefkpgfgmaaGreatDoor
open Go.Proofs.Tryz
open Go.RowKit
set_option maxRecDepth 100000
theorem n_U : ∀ (l : List (a_3 × Int)) (x : a_3), d_2 l x = 0 ∨ d_2 l x ∈ l.map (·.2)
 | [], _ => .inl rfl
 | (k, n) :: r, x => by
  unfold d_2
  split
  ·exact .inr s_
  ·exact (n_U r x).imp id (fun h => by simp only [List.map_cons, List.mem_cons]; exact .inr h)
theorem q_p (x : a_3) (h : b_f x ≠ 0) : b_f x = 1 ∨ b_f x = 2 ∨ b_f x = 3 ∨ b_f x = 4 ∨ b_f x = 5 ∨ b_f x = 6 ∨ b_f x = 7 ∨ b_f x = 8 ∨ b_f x = 9 ∨ b_f x = 10 ∨ b_f x = 11 ∨ b_f x = 12 := by
 rcases n_U b_o x with h0 | h0
 ·exact absurd h0 h
 ·have h1 : b_f x ∈ ([12, 11, 10, 9, 8, 7, 6, 5, 4, 3, 2, 1] : List Int) := h0
  generalize b_f x = q at *
  simp only [List.mem_cons, List.not_mem_nil, or_false] at h1
  omega
structure SpB (W0 : World) (P bx : Nat) (W : World) (v0 v1 v2 v3 v4 v5 : Value) : Prop where
 gr : W0.grownBy W (some P)
 pl : P < W0.heap.size
 le : W0.heap.size ≤ bx
 box : W.heap[bx]? = some (.cells #[v0, v1, v2, v3, v4, v5] 27 (0, 0))
section
variable {W0 W W' : World} {P bx : Nat} {v0 v1 v2 v3 v4 v5 : Value}
theorem SpB.step (h : SpB W0 P bx W v0 v1 v2 v3 v4 v5) (hg : W.grownBy W' (some P)) : SpB W0 P bx W' v0 v1 v2 v3 v4 v5 := by
 exact w_n
theorem SpB.kept (h : SpB W0 P bx W v0 v1 v2 v3 v4 v5) (i : Nat) (v : Value) : a_I tI W (W.setCell ⟨bx, i, none⟩ v) :=
 a_I.of_grown (a_d (g_ _ _) _ _) fun k e => by injection e with e; subst e; exact ⟨_, _, _, h.box, d_⟩
theorem SpB.set (h : SpB W0 P bx W v0 v1 v2 v3 v4 v5) (i : Nat) (v : Value) {u0 u1 u2 u3 u4 u5 : Value} (hu : #[v0, v1, v2, v3, v4, v5].setIfInBounds i v = #[u0, u1, u2, u3, u4, u5] := by simp; refine ⟨?_, ?_, ?_, ?_, ?_, ?_⟩ <;> rfl) : SpB W0 P bx (W.setCell ⟨bx, i, none⟩ v) u0 u1 u2 u3 u4 u5 := by
 have h1 := h.pl
 have h2 := h.le
 refine u_n ?_; intro g
 refine ⟨h.gr.andThen g (fun j e => .inl j_), h1, h2, ?_⟩
 have := heap_setCell_same W bx i _ _ v h.box
 rw [hu] at this
 exact this
end
theorem ItR.firmT {base n : Nat} {W : World} {c : List It} {I : Option Addr} {es : List (Option Addr × Nat)} (h : ItR base W c I n es) : b_b tI (fun v => f_r v I c) W := fun v hv =>
 q_R h.len (b_b.of_own (F := fun v => v.ownsRow base 61 5 (.slice I c.length n) c.length (b_T c es)) h.own d_ (fun _ h => h) v hv) (h.firm v (hv.sub (fun t ht => by simp at ht; simp [ht])))
theorem c_p {W w3 w : World} {P bx cc : Nat} {A : Option Addr} {ts : List Tok} {t : QSt} {v0 v1 v2 v3 v4 v5 : Value} (hI : SpB w3 P bx w v0 v1 v2 v3 v4 v5) (hq : QPt QR w P A ts cc t) (hR1 : w3.heap[W.heap.size]? = some (.cells #[.int .i64 0, str [], .slice none 0 0, .slice none 0 0, .slice none 0 0, .slice none 0 0] 27 (0, 0))) (hG1 : W.grownBy w3 (some P)) (hP : P < W.heap.size) (x : Stp) (a : Adr) (hF : b_b tI (fun v => x.At v a) w) :
  (w.cell? ⟨W.heap.size, 0, none⟩ = some (.int .i64 0) ∧ w.cell? ⟨W.heap.size, 1, none⟩ = some (str []) ∧ w.cell? ⟨W.heap.size, 2, none⟩ = some (.slice none 0 0) ∧ w.cell? ⟨W.heap.size, 3, none⟩ = some (.slice none 0 0) ∧ w.cell? ⟨W.heap.size, 4, none⟩ = some (.slice none 0 0) ∧ w.cell? ⟨W.heap.size, 5, none⟩ = some (.slice none 0 0) ∧ (∀ o, w.frozen? ⟨W.heap.size, o, none⟩ = false) ∧ W.heap.size < w.heap.size) ∧
  (w.cell? ⟨bx, 0, none⟩ = some v0 ∧ w.cell? ⟨bx, 1, none⟩ = some v1 ∧ w.cell? ⟨bx, 2, none⟩ = some v2 ∧ w.cell? ⟨bx, 3, none⟩ = some v3 ∧ w.cell? ⟨bx, 4, none⟩ = some v4 ∧ w.cell? ⟨bx, 5, none⟩ = some v5 ∧ (∀ o, w.frozen? ⟨bx, o, none⟩ = false) ∧ bx < w.heap.size) ∧
  (b_b tI (fun v => x.At v a) ((((((w.setCell ⟨W.heap.size, 0, none⟩ v0).setCell ⟨W.heap.size, 1, none⟩ v1).setCell ⟨W.heap.size, 2, none⟩ v2).setCell ⟨W.heap.size, 3, none⟩ v3).setCell ⟨W.heap.size, 4, none⟩ v4).setCell ⟨W.heap.size, 5, none⟩ v5) ∧
   QPost QR W P A ts cc t ((((((w.setCell ⟨W.heap.size, 0, none⟩ v0).setCell ⟨W.heap.size, 1, none⟩ v1).setCell ⟨W.heap.size, 2, none⟩ v2).setCell ⟨W.heap.size, 3, none⟩ v3).setCell ⟨W.heap.size, 4, none⟩ v4).setCell ⟨W.heap.size, 5, none⟩ v5)) := by
 have hR := a_r hI.gr hR1 o_
 exact ⟨b_s hR, b_s hI.box, c_8 (l := tI) d_ (r := W.heap.size) ⟨_, hR⟩ hq (hG1.trans hI.gr) (l_ _) hP x a hF v0 v1 v2 v3 v4 v5⟩
theorem t_5 {P : Program} {fn : Func} {R : Ending → World → Prop} {a : Act} {w : World} {v : Value} (h2 : R (.returned v) w) (h1 : (results fn a.tmps).run P w = .ok v w := by simp [results, results120, go_sem, r0, r1, r2, r3, r4, r5]) (hd : a.defers = [] := by rfl) : bodyPost P fn R .ret a w := bodyPost_ret h1 hd h2
theorem c_z {p : Prop} (h : p := by
  go_wp2
  exact t_5 (by rw [HEQ.out]; exact ⟨⟨_, rfl, HF.out.1⟩, HF.out.2⟩)) : p := h
theorem m_G (l : List a_3) (wf : a_3 → Int) (hll : 1 ≤ l.length ∧ l.length ≤ 20) (hwf : ∀ x, c_A l x l.length = wf x) (hne : ∀ k (h : k < l.length), l[k] ≠ []) (hfn : ∀ W, Calls prog 165 #[] W fun e w' => m_3 W w' l e)
  (hin : ∀ x, wf x ≠ 0 → wf x = 1 ∨ wf x = 2 ∨ wf x = 3 ∨ wf x = 4 ∨ wf x = 5 ∨ wf x = 6 ∨ wf x = 7 ∨ wf x = 8 ∨ wf x = 9 ∨ wf x = 10 ∨ wf x = 11 ∨ wf x = 12)
  (W : World) (P : Nat) (A : Option Addr) (ts : List Tok) (cc : Nat) (s : QSt) (hv : a_O ts = true) (hS : QPt QR W P A ts cc s) (hi : s.i < ts.length) (hl : ts.length + 1 ≤ 1000000) :
  Calls prog 120 #[.pointer (some ⟨P, 0, none⟩)] W fun e w' => k_P w' (if a_e ts s = true ∧ wf (tk ts s.i).text ≠ 0 then b_2 true ts (wf (tk ts s.i).text) ⟨s.i + 1, 0⟩ else (j_J, s.fail 3)).1 e ∧ QPost QR W P A ts cc (if a_e ts s = true ∧ wf (tk ts s.i).text ≠ 0 then b_2 true ts (wf (tk ts s.i).text) ⟨s.i + 1, 0⟩ else (j_J, s.fail 3)).2 w' := by
 have hP := hS.lt
 have hl0 : ts.length ≤ 1000000 := by omega
 obtain ⟨R, hR⟩ : ∃ R, R = (if a_e ts s = true ∧ wf (tk ts s.i).text ≠ 0 then b_2 true ts (wf (tk ts s.i).text) ⟨s.i + 1, 0⟩ else (j_J, s.fail 3)) := ⟨_, rfl⟩
 rw [← hR]
 have HV := a_0 hv
 have HL := a_0 hl
 have HWd := a_0 (fun (w : a_3) (W' : World) (h : QPt QR W' P A ts cc s) => show Calls prog 188 #[.pointer (some ⟨P, 0, none⟩), str w] W' (fun e' w' => e' = .returned (.bool (a_e ts s && (tk ts s.i).text == w)) ∧ Below W'.heap.size W' w') from h_d W' P A ts cc s h hi hl0 w)
 have HFl := a_0 (fun (W' : World) (h : QPt QR W' P A ts cc s) => e_4 W' P A ts cc s h 3)
 have HN1 := a_0 (fun (hn : a_e ts s = true) => b_r hv hi hn)
 have HN0 := a_0 (fun (hn : a_e ts s = true) => (a_D hn).1)
 have HFn := a_0 hfn
 have HNE := a_0 hne
 have HS := a_0 hS
 have hWf := hwf (tk ts s.i).text
 have hIn := hin (tk ts s.i).text
 generalize (tk ts s.i).text = y at *
 generalize hvv : a_e ts s = v at *
 have HXX := a_0 hR
 have HW0 := a_0 (World.grownBy_alloc W (.cells #[.int .i64 0, str [], .slice none 0 0, .slice none 0 0, .slice none 0 0, .slice none 0 0] 27) (some P))
 have HRR := a_0 (heap_alloc_new W (.cells #[.int .i64 0, str [], .slice none 0 0, .slice none 0 0, .slice none 0 0, .slice none 0 0] 27))
 clear hvv hR hS hfn hwf hne hin hv hl
 go_enter func120, ntmps120
 go_wp2_with fail
 refine (HFn.out _).mono ?_
 rintro e w3 ⟨rfl, ho3, hb3⟩
 have hbW : Below W.heap.size W w3 := (Below.alloc (b_ _ W) (l_ _) _).trans (hb3.mono s_)
 have hz3 := hb3.size
 simp at hz3
 have HG1 := a_0 (show W.grownBy w3 (some P) from a_1 hbW)
 have HR1 := a_0 (show w3.heap[W.heap.size]? = _ from (hb3.block _ s_).trans HRR.out)
 have HQ0 := a_0 (HS.out.below hbW)
 have hp3 := HQ0.out.lt
 have hlo : W.heap.size + 1 < w3.heap.size := by have := e_T ho3 _ rfl; simpa using this
 have HO := a_0 (a_8 ho3 (Below.alloc (b_ _ w3) (l_ _) (.cells #[.int .i64 0, str [], .slice none 0 0, .slice none 0 0, .slice none 0 0, .slice none 0 0] 27)))
 have HQ := a_0 (HQ0.out.below (Below.alloc (b_ _ w3) (l_ _) (.cells #[.int .i64 0, str [], .slice none 0 0, .slice none 0 0, .slice none 0 0, .slice none 0 0] 27)))
 have HI := a_0 (show SpB w3 P w3.heap.size (w3.alloc (.cells #[.int .i64 0, str [], .slice none 0 0, .slice none 0 0, .slice none 0 0, .slice none 0 0] 27)) (.int .i64 0) (str []) (.slice none 0 0) (.slice none 0 0) (.slice none 0 0) (.slice none 0 0) from ⟨World.grownBy_alloc _ _ _, hp3, l_ _, heap_alloc_new w3 _⟩)
 clear hb3 ho3 hbW HQ0 HRR HW0 HFn HS
 simp only [World.size_alloc] at HO
 go_wp2_with fail
 go_loopw [5] (fun m wr => ∃ (k : Nat), m = .int .i64 k ∧ 1 ≤ k ∧ k ≤ l.length ∧ Hid (SpB w3 P w3.heap.size wr (.int .i64 (if v = true then c_A l y k else 0)) (str []) (.slice none 0 0) (.slice none 0 0) (.slice none 0 0) (.slice none 0 0)) ∧ Hid (QPt QR wr P A ts cc s) ∧ Hid (wr.ownsRow (W.heap.size + 1) 9 1 (.slice (some ⟨W.heap.size + 1, 0, none⟩) l.length l.length) l.length (l.map str))) (fun m wr => match m with | .int _ i => l.length - i.toNat | _ => 0)
 case atStart => exact ⟨1, rfl, l_ _, hll.1, by have := HI; simpa [c_A] using this, HQ, HO⟩
 case round =>
  clear HI HQ HO
  obtain ⟨k, rfl, hk1, hk2, HI, HQ, HO⟩ := hrel
  by_cases hk : k < l.length
  ·obtain ⟨gE, hgE, _, hcE⟩ := f_D (a := l) HO.out hk
   injection hgE with hgE; injection hgE with hgE; subst hgE; refine s_o ?_; intro hkI; have hgd : l.getD k [] = l[k] := by simp [hk]
   have hnk := HNE.out k hk
   have hsc : c_A l y (k + 1) = if y = l[k] then (k : Int) else c_A l y k := by
    show (if 1 ≤ k ∧ l.getD k [] ≠ [] ∧ y = l.getD k [] then (k : Int) else c_A l y k) = _
    rw [hgd]; have h : (1 ≤ k ∧ l[k] ≠ [] ∧ y = l[k]) ↔ (y = l[k]) := ⟨fun h => h.2.2, fun h => ⟨hk1, hnk, h⟩⟩; simp only [h]
   clear hgd hnk; generalize l[k] = q at *; have hms : ∀ z : Int, l.length - (((k : Int) + 1).toNat) < l.length - ((k : Int).toNat) := fun _ => by omega
   have HWq := a_0 (HWd.out q)
   by_cases hm : (v && y == q) = true
   ·rw [hm] at HWq
    simp only [Bool.and_eq_true, beq_iff_eq] at hm; obtain ⟨rfl, rfl⟩ := hm; rw [if_pos rfl] at hsc; have HSC := a_0 hsc; clear hsc
    go_wp2_with fail
    refine (HWq.out _ HQ.out).mono ?_; rintro e w5 ⟨rfl, hb5⟩; have HI5 := a_0 (HI.out.step (a_1 hb5)); refine t_P ?_; intro HQ5 HO5; obtain ⟨a0, a1, a2, a3, a4, a5, af, hlB⟩ := b_s HI5.out.box; have HI6 := a_0 (HI5.out.set 0 (.int .i64 k) (u0 := .int .i64 (if true = true then c_A l y (k + 1) else 0)) (by rw [HSC.out]; simp; refine ⟨?_, ?_, ?_, ?_, ?_⟩ <;> rfl)); have HQ6 := a_0 (HQ5.out.boxR hp3 0 (.int .i64 k)); have HO6 := a_0 (HO5.out.kept (a_d (g_ w5 (some w3.heap.size)) 0 (.int .i64 k)) (.inr (by simp only [Value.ownBlock]; intro e; injection e with e; omega))); clear HI HQ HO HI5 HQ5 HO5 hb5 HWq hcE a1 a2 a3 a4 a5
    go_wp2
    exact ⟨⟨k + 1, s_, o_, o_, HI6, HQ6, HO6⟩, hms 0⟩
   ·have hmf : (v && y == q) = false := by simpa using hm
    rw [hmf] at HWq
    have HI2 := a_0 (show SpB w3 P w3.heap.size wr (.int .i64 (if v = true then c_A l y (k + 1) else 0)) (str []) (.slice none 0 0) (.slice none 0 0) (.slice none 0 0) (.slice none 0 0) from by
     cases v with
     | false => exact HI.out
     | true =>
      have : ¬ (y = q) := fun h => hm (by simp [h]); have h0 : c_A l y (k + 1) = c_A l y k := hsc.trans (if_neg this); rw [h0]
      exact HI.out)
    clear HI hsc hm hmf
    go_wp2_with fail
    refine (HWq.out _ HQ.out).mono ?_; rintro e w5 ⟨rfl, hb5⟩; have HI5 := a_0 (HI2.out.step (a_1 hb5)); refine t_P ?_; intro HQ5 HO5; clear HI2 HQ HO hb5 HWq hcE
    go_wp2
    exact ⟨⟨k + 1, s_, o_, o_, HI5, HQ5, HO5⟩, hms 0⟩
  ·have hkl : k = l.length := by omega
   subst hkl; rw [hWf] at HI; clear hk hk1 hk2 HO HWd HNE hWf hll
   by_cases hz : v = true ∧ wf y ≠ 0
   ·obtain ⟨rfl, hk0⟩ := hz
    have hK := hIn hk0; have HXK := a_0 (HXX.out.trans (if_pos ⟨rfl, hk0⟩)); rw [if_pos rfl] at HI; have hi1 := HN1.out rfl; have hn0 := HN0.out rfl; clear HXX hk0 HFl hIn HN1 HN0; generalize wf y = k at *; obtain ⟨s1, hs1⟩ : ∃ s1 : QSt, s1 = ⟨s.i + 1, 0⟩ := ⟨_, rfl⟩; have h1i : s1.i < ts.length := by rw [hs1]; exact hi1
    rw [← hs1] at HXK; obtain ⟨k0, k1, k2⟩ := HQ.out.cells; have hf := HQ.out.free; have hPr := HQ.out.lt; have g7 : wr.grownBy (wr.setCell ⟨P, 1, none⟩ (.int .i64 ((s.i + 1 : Nat) : Int))) (some P) := a_d (g_ wr (some P)) 1 (.int .i64 ((s.i + 1 : Nat) : Int)); have HQ5 := a_0 (show QPt QR (wr.setCell ⟨P, 1, none⟩ (.int .i64 ((s.i + 1 : Nat) : Int))) P A ts cc s1 from by have := HQ.out.setAt (s.i + 1); rw [hn0] at this; rw [hs1]; exact this); have HI5 := a_0 (HI.out.step g7); refine d_V ?_; intro a0 a1 a2 a3 a4 a5 af hlB; have HRw := a_0 (a_r HI.out.gr HR1.out (show W.heap.size ≠ P by omega)); have HIw := a_0 HI.out.box; clear HI g7 a1 a2 a3 a4 a5 hs1 hn0 HQ; have hv := HV.out; have hl9 := HL.out
    rcases hK with rfl | rfl | rfl | rfl | rfl | rfl | rfl | rfl | rfl | rfl | rfl | rfl
    ·skip
     have HC := a_0 (fun (W' : World) (h : QPt QR W' P A ts cc s1) => q_L W' P A ts cc s1 hv h h1i hl0); have HE := a_0 (HXK.out.trans (show b_2 true ts 1 s1 = (⟨1, [], [], [], [], (b_J ts s1).1⟩, (b_J ts s1).2) from rfl)); clear HXK; generalize b_J ts s1 = r at *; obtain ⟨ex, s2⟩ := r; simp only at HC HE
     go_wp2_with fail
     refine (HC.out _ HQ5.out).mono ?_; rintro e w6 ⟨⟨B, n, rfl, ho⟩, hq⟩; have HI := a_0 (HI5.out.step hq.gr); have HF1 := a_0 (b_b.of_own (l := tI) (F := fun v => c_L v B ex) ho d_ (fun v h => c_X h)); have HQ := a_0 hq.pt; clear hq ho HC HI5 HQ5 a0 af hlB k0 k1 k2 hf hPr; refine d_V ?_; intro a0 a1 a2 a3 a4 a5 af hlB; replace HF1 := a_0 (HF1.out.keep (HI.out.kept 5 (.slice B ex.length n))); replace HI := a_0 (HI.out.set 5 (.slice B ex.length n)); replace HQ := a_0 (HQ.out.boxR hp3 5 (.slice B ex.length n)); obtain ⟨⟨r0, r1, r2, r3, r4, r5, fr, hlR⟩, ⟨b0, b1, b2, b3, b4, b5, bf, hlX⟩, HF⟩ := c_p HI.out HQ.out HR1.out HG1.out hP ⟨1, [], [], [], [], ex⟩ ⟨none, 0, none, 0, none, 0, B, n⟩ (fun v hv => ⟨.inl rfl, .inl rfl, .inl rfl, HF1.out v hv, l_ _, l_ _, l_ _⟩); replace HF := a_0 HF; have HEQ := a_0 (show R = (⟨1, [], [], [], [], ex⟩, s2) from HE.out); exact c_z
    ·skip
     have HC := a_0 (fun (W' : World) (h : QPt QR W' P A ts cc s1) => n_b W' P A ts cc s1 hv h h1i hl0); have HE := a_0 (HXK.out.trans (show b_2 true ts 2 s1 = (⟨2, [], [], [], (a_z true ts (b_a ts) [] s1).1, []⟩, (a_z true ts (b_a ts) [] s1).2) from rfl)); clear HXK; generalize a_z true ts (b_a ts) [] s1 = r at *; obtain ⟨c, s2⟩ := r; simp only at HC HE
     go_wp2_with fail
     refine (HC.out _ HQ5.out).mono ?_; rintro e w6 ⟨⟨B, n, es, rfl, ho⟩, hq⟩; have HI := a_0 (HI5.out.step hq.gr); have HF1 := a_0 ho.firmT; have hcap := b_7 ho.own; have HQ := a_0 hq.pt; clear hq ho HC HI5 HQ5 a0 af hlB k0 k1 k2 hf hPr; refine d_V ?_; intro a0 a1 a2 a3 a4 a5 af hlB; replace HF1 := a_0 (HF1.out.keep (HI.out.kept 4 (.slice B c.length n))); replace HI := a_0 (HI.out.set 4 (.slice B c.length n)); replace HQ := a_0 (HQ.out.boxR hp3 4 (.slice B c.length n)); obtain ⟨⟨r0, r1, r2, r3, r4, r5, fr, hlR⟩, ⟨b0, b1, b2, b3, b4, b5, bf, hlX⟩, HF⟩ := c_p HI.out HQ.out HR1.out HG1.out hP ⟨2, [], [], [], c, []⟩ ⟨none, 0, none, 0, B, n, none, 0⟩ (fun v hv => ⟨.inl rfl, .inl rfl, HF1.out v hv, .inl rfl, l_ _, l_ _, hcap⟩); replace HF := a_0 HF; have HEQ := a_0 (show R = (⟨2, [], [], [], c, []⟩, s2) from HE.out); exact c_z
    ·skip
     have HC := a_0 (fun (W' : World) (h : QPt QR W' P A ts cc s1) => j_y W' P A ts cc s1 hv h h1i hl0); have HE := a_0 (HXK.out.trans (show b_2 true ts 3 s1 = (⟨3, [], (a_u true ts s1).1, [], [], []⟩, (a_u true ts s1).2) from rfl)); clear HXK; generalize a_u true ts s1 = r at *; obtain ⟨c, s2⟩ := r; simp only at HC HE
     go_wp2_with fail
     refine (HC.out _ HQ5.out).mono ?_; rintro e w6 ⟨⟨B, n, rfl, ho⟩, hq⟩; have HI := a_0 (HI5.out.step hq.gr); have HF1 := a_0 (b_i (l := tI) d_ ho); have hcap := b_7 ho; have HQ := a_0 hq.pt; clear hq ho HC HI5 HQ5 a0 af hlB k0 k1 k2 hf hPr; refine d_V ?_; intro a0 a1 a2 a3 a4 a5 af hlB; replace HF1 := a_0 (HF1.out.keep (HI.out.kept 2 (.slice B c.length n))); replace HI := a_0 (HI.out.set 2 (.slice B c.length n)); replace HQ := a_0 (HQ.out.boxR hp3 2 (.slice B c.length n)); obtain ⟨⟨r0, r1, r2, r3, r4, r5, fr, hlR⟩, ⟨b0, b1, b2, b3, b4, b5, bf, hlX⟩, HF⟩ := c_p HI.out HQ.out HR1.out HG1.out hP ⟨3, [], c, [], [], []⟩ ⟨B, n, none, 0, none, 0, none, 0⟩ (fun v hv => ⟨HF1.out v hv, .inl rfl, .inl rfl, .inl rfl, hcap, l_ _, l_ _⟩); replace HF := a_0 HF; have HEQ := a_0 (show R = (⟨3, [], c, [], [], []⟩, s2) from HE.out); exact c_z
    ·skip
     refine t_U ?_; intro hi2 hi3 hi4 HC1 HC2 HC3; have HE := a_0 (HXK.out.trans (show b_2 true ts 4 s1 = (⟨4, (a_7 ts s1).1, (a_t true ts (a_c ts (a_7 ts s1).2 1 wOn)).1.1, (a_t true ts (a_c ts (a_7 ts s1).2 1 wOn)).1.2, (b_G ts 4 (a_t true ts (a_c ts (a_7 ts s1).2 1 wOn)).2).1, []⟩, (b_G ts 4 (a_t true ts (a_c ts (a_7 ts s1).2 1 wOn)).2).2) from rfl)); rw [show a_z true ts (c_1 ts) ([], []) (a_c ts (a_7 ts s1).2 1 wOn) = a_t true ts (a_c ts (a_7 ts s1).2 1 wOn) from rfl] at hi4; clear HXK; generalize a_t true ts (a_c ts (a_7 ts s1).2 1 wOn) = r3 at *; generalize a_c ts (a_7 ts s1).2 1 wOn = s3 at *; generalize a_7 ts s1 = r1 at *; obtain ⟨x, s2⟩ := r1; obtain ⟨⟨a, b⟩, s4⟩ := r3; simp only at HC1 HC2 HC3 HE hi4; refine t_S ?_; intro HC4 HE4 HNx
     go_wp2_with fail
     refine (HC1.out _ HQ5.out).mono ?_; rintro e w6 ⟨rfl, hq⟩; refine s_h ?_; intro HI HQ; clear hq HC1 HI5 HQ5 a0 af hlB k0 k1 k2 hf hPr; refine d_V ?_; intro a0 a1 a2 a3 a4 a5 af hlB; replace HI := a_0 (HI.out.set 1 (str x)); replace HQ := a_0 (HQ.out.boxR hp3 1 (str x))
     go_wp2_with fail
     refine (HC2.out _ HQ.out).mono ?_; rintro e w7 ⟨rfl, hq⟩; replace HI := a_0 (HI.out.step hq.gr); replace HQ := a_0 hq.pt; clear hq HC2; clear a0 a1 a2 a3 a4 a5 af hlB
     go_wp2_with fail
     refine (HC3.out _ HQ.out).mono ?_; rintro e w8 ⟨⟨E, n1, F, m1, rfl, ho⟩, hq⟩; replace HI := a_0 (HI.out.step hq.gr); replace HQ := a_0 hq.pt; refine _ad ?_; intro HF1 HF2 hc1 hc2; clear hq ho HC3; refine d_V ?_; intro a0 a1 a2 a3 a4 a5 af hlB; replace HF1 := a_0 ((HF1.out.keep (HI.out.kept 2 (.slice E a.length n1))).keep ((HI.out.set 2 (.slice E a.length n1)).kept 3 (.slice F b.length m1))); replace HF2 := a_0 ((HF2.out.keep (HI.out.kept 2 (.slice E a.length n1))).keep ((HI.out.set 2 (.slice E a.length n1)).kept 3 (.slice F b.length m1))); replace HI := a_0 (HI.out.set 2 (.slice E a.length n1)); replace HQ := a_0 (HQ.out.boxR hp3 2 (.slice E a.length n1)); replace HI := a_0 (HI.out.set 3 (.slice F b.length m1)); replace HQ := a_0 (HQ.out.boxR hp3 3 (.slice F b.length m1))
     go_wp2_with fail
     refine (HC4.out _ HQ.out).mono ?_; rintro e w9 ⟨rfl, hb⟩; replace HI := a_0 (HI.out.step (a_1 hb)); replace HF1 := a_0 (HF1.out.keep (a_I.of_below hb)); replace HF2 := a_0 (HF2.out.keep (a_I.of_below hb)); replace HQ := a_0 (HQ.out.below hb); clear hb; clear HC4; clear a0 a1 a2 a3 a4 a5 af hlB
     by_cases hcl : isT ts s4 5 a_M = true
     ·skip
      refine v_l ?_; intro h40 hnx HC5; have had : b_G ts 4 s4 = a_z true ts (c_4 ts) [] ⟨s4.i + 1, 0⟩ := (if_pos ⟨hcl, d_⟩).trans (show _ = a_z true ts (c_4 ts) [] ⟨s4.i + 1, 0⟩ from by unfold a_z; rw [if_neg s_]); have HE5 := HE.out; rw [had] at HE5; replace HE5 := a_0 HE5; clear had HE HE4 HNx; generalize a_z true ts (c_4 ts) [] ⟨s4.i + 1, 0⟩ = r5 at *; obtain ⟨c, s5⟩ := r5; simp only at HC5 HE5; rw [hcl]; clear hcl; refine d_V ?_; intro a0 a1 a2 a3 a4 a5 af hlB; refine w_0 ?_; intro k0 k1 k2 hf hPr g7 HQ7; replace HI := a_0 (HI.out.step g7); replace HF1 := a_0 (HF1.out.keep (a_S HQ.out g7 d_)); replace HF2 := a_0 (HF2.out.keep (a_S HQ.out g7 d_)); clear g7 HQ; have HQ := HQ7; clear HQ7
      go_wp2_with fail
      refine (HC5.out _ HQ.out).mono ?_; rintro e w10 ⟨⟨I, n5, es, rfl, ho⟩, hq⟩; replace HI := a_0 (HI.out.step hq.gr); replace HF1 := a_0 (HF1.out.keep (a_S HQ.out hq.gr d_)); replace HF2 := a_0 (HF2.out.keep (a_S HQ.out hq.gr d_)); replace HQ := a_0 hq.pt; refine p_5 ?_; intro HF3 hc3; clear hq ho HC5 k0 k1 k2 hf hPr; clear a0 a1 a2 a3 a4 a5 af hlB; refine d_V ?_; intro a0 a1 a2 a3 a4 a5 af hlB; replace HF1 := a_0 (HF1.out.keep (HI.out.kept 4 (.slice I c.length n5))); replace HF2 := a_0 (HF2.out.keep (HI.out.kept 4 (.slice I c.length n5))); replace HF3 := a_0 (HF3.out.keep (HI.out.kept 4 (.slice I c.length n5))); replace HI := a_0 (HI.out.set 4 (.slice I c.length n5)); replace HQ := a_0 (HQ.out.boxR hp3 4 (.slice I c.length n5)); obtain ⟨⟨r0, r1, r2, r3, r4, r5, fr, hlR⟩, ⟨b0, b1, b2, b3, b4, b5, bf, hlX⟩, HF⟩ := c_p HI.out HQ.out HR1.out HG1.out hP ⟨4, x, a, b, c, []⟩ ⟨E, n1, F, m1, I, n5, none, 0⟩ (fun v hv => ⟨HF1.out v hv, HF2.out v hv, HF3.out v hv, .inl rfl, hc1, hc2, hc3⟩); replace HF := a_0 HF; have HEQ := a_0 (show R = (⟨4, x, a, b, c, []⟩, s5) from HE5.out); exact c_z
     ·skip
      refine t_w ?_; intro hclf; have had : b_G ts 4 s4 = ([], s4) := if_neg (by simp [hclf]); have HE5 := HE.out; rw [had] at HE5; replace HE5 := a_0 HE5; clear had HE HE4 HNx hcl; rw [hclf]; clear hclf; obtain ⟨⟨r0, r1, r2, r3, r4, r5, fr, hlR⟩, ⟨b0, b1, b2, b3, b4, b5, bf, hlX⟩, HF⟩ := c_p HI.out HQ.out HR1.out HG1.out hP ⟨4, x, a, b, [], []⟩ ⟨E, n1, F, m1, none, 0, none, 0⟩ (fun v hv => ⟨HF1.out v hv, HF2.out v hv, .inl rfl, .inl rfl, hc1, hc2, l_ _⟩); replace HF := a_0 HF; have HEQ := a_0 (show R = (⟨4, x, a, b, [], []⟩, s4) from HE5.out); exact c_z
    ·skip
     refine t_U ?_; intro hi2 hi3 hi4 HC1 HC2 HC3; have HE := a_0 (HXK.out.trans (show b_2 true ts 5 s1 = (⟨5, (a_7 ts s1).1, (a_t true ts (a_c ts (a_7 ts s1).2 1 wOn)).1.1, (a_t true ts (a_c ts (a_7 ts s1).2 1 wOn)).1.2, (b_G ts 5 (a_t true ts (a_c ts (a_7 ts s1).2 1 wOn)).2).1, []⟩, (b_G ts 5 (a_t true ts (a_c ts (a_7 ts s1).2 1 wOn)).2).2) from rfl)); rw [show a_z true ts (c_1 ts) ([], []) (a_c ts (a_7 ts s1).2 1 wOn) = a_t true ts (a_c ts (a_7 ts s1).2 1 wOn) from rfl] at hi4; clear HXK; generalize a_t true ts (a_c ts (a_7 ts s1).2 1 wOn) = r3 at *; generalize a_c ts (a_7 ts s1).2 1 wOn = s3 at *; generalize a_7 ts s1 = r1 at *; obtain ⟨x, s2⟩ := r1; obtain ⟨⟨a, b⟩, s4⟩ := r3; simp only at HC1 HC2 HC3 HE hi4; refine t_S ?_; intro HC4 HE4 HNx
     go_wp2_with fail
     refine (HC1.out _ HQ5.out).mono ?_; rintro e w6 ⟨rfl, hq⟩; refine s_h ?_; intro HI HQ; clear hq HC1 HI5 HQ5 a0 af hlB k0 k1 k2 hf hPr; refine d_V ?_; intro a0 a1 a2 a3 a4 a5 af hlB; replace HI := a_0 (HI.out.set 1 (str x)); replace HQ := a_0 (HQ.out.boxR hp3 1 (str x))
     go_wp2_with fail
     refine (HC2.out _ HQ.out).mono ?_; rintro e w7 ⟨rfl, hq⟩; replace HI := a_0 (HI.out.step hq.gr); replace HQ := a_0 hq.pt; clear hq HC2; clear a0 a1 a2 a3 a4 a5 af hlB
     go_wp2_with fail
     refine (HC3.out _ HQ.out).mono ?_; rintro e w8 ⟨⟨E, n1, F, m1, rfl, ho⟩, hq⟩; replace HI := a_0 (HI.out.step hq.gr); replace HQ := a_0 hq.pt; refine _ad ?_; intro HF1 HF2 hc1 hc2; clear hq ho HC3; refine d_V ?_; intro a0 a1 a2 a3 a4 a5 af hlB; replace HF1 := a_0 ((HF1.out.keep (HI.out.kept 2 (.slice E a.length n1))).keep ((HI.out.set 2 (.slice E a.length n1)).kept 3 (.slice F b.length m1))); replace HF2 := a_0 ((HF2.out.keep (HI.out.kept 2 (.slice E a.length n1))).keep ((HI.out.set 2 (.slice E a.length n1)).kept 3 (.slice F b.length m1))); replace HI := a_0 (HI.out.set 2 (.slice E a.length n1)); replace HQ := a_0 (HQ.out.boxR hp3 2 (.slice E a.length n1)); replace HI := a_0 (HI.out.set 3 (.slice F b.length m1)); replace HQ := a_0 (HQ.out.boxR hp3 3 (.slice F b.length m1))
     go_wp2_with fail
     refine (HC4.out _ HQ.out).mono ?_; rintro e w9 ⟨rfl, hb⟩; replace HI := a_0 (HI.out.step (a_1 hb)); replace HF1 := a_0 (HF1.out.keep (a_I.of_below hb)); replace HF2 := a_0 (HF2.out.keep (a_I.of_below hb)); replace HQ := a_0 (HQ.out.below hb); clear hb; clear HC4; clear a0 a1 a2 a3 a4 a5 af hlB
     by_cases hcl : isT ts s4 5 a_M = true
     ·skip
      refine v_l ?_; intro h40 hnx HC5; have had : b_G ts 5 s4 = a_z true ts (c_4 ts) [] ⟨s4.i + 1, 0⟩ := (if_pos ⟨hcl, d_⟩).trans (show _ = a_z true ts (c_4 ts) [] ⟨s4.i + 1, 0⟩ from by unfold a_z; rw [if_neg s_]); have HE5 := HE.out; rw [had] at HE5; replace HE5 := a_0 HE5; clear had HE HE4 HNx; generalize a_z true ts (c_4 ts) [] ⟨s4.i + 1, 0⟩ = r5 at *; obtain ⟨c, s5⟩ := r5; simp only at HC5 HE5; rw [hcl]; clear hcl; refine d_V ?_; intro a0 a1 a2 a3 a4 a5 af hlB; refine w_0 ?_; intro k0 k1 k2 hf hPr g7 HQ7; replace HI := a_0 (HI.out.step g7); replace HF1 := a_0 (HF1.out.keep (a_S HQ.out g7 d_)); replace HF2 := a_0 (HF2.out.keep (a_S HQ.out g7 d_)); clear g7 HQ; have HQ := HQ7; clear HQ7
      go_wp2_with fail
      refine (HC5.out _ HQ.out).mono ?_; rintro e w10 ⟨⟨I, n5, es, rfl, ho⟩, hq⟩; replace HI := a_0 (HI.out.step hq.gr); replace HF1 := a_0 (HF1.out.keep (a_S HQ.out hq.gr d_)); replace HF2 := a_0 (HF2.out.keep (a_S HQ.out hq.gr d_)); replace HQ := a_0 hq.pt; refine p_5 ?_; intro HF3 hc3; clear hq ho HC5 k0 k1 k2 hf hPr; clear a0 a1 a2 a3 a4 a5 af hlB; refine d_V ?_; intro a0 a1 a2 a3 a4 a5 af hlB; replace HF1 := a_0 (HF1.out.keep (HI.out.kept 4 (.slice I c.length n5))); replace HF2 := a_0 (HF2.out.keep (HI.out.kept 4 (.slice I c.length n5))); replace HF3 := a_0 (HF3.out.keep (HI.out.kept 4 (.slice I c.length n5))); replace HI := a_0 (HI.out.set 4 (.slice I c.length n5)); replace HQ := a_0 (HQ.out.boxR hp3 4 (.slice I c.length n5)); obtain ⟨⟨r0, r1, r2, r3, r4, r5, fr, hlR⟩, ⟨b0, b1, b2, b3, b4, b5, bf, hlX⟩, HF⟩ := c_p HI.out HQ.out HR1.out HG1.out hP ⟨5, x, a, b, c, []⟩ ⟨E, n1, F, m1, I, n5, none, 0⟩ (fun v hv => ⟨HF1.out v hv, HF2.out v hv, HF3.out v hv, .inl rfl, hc1, hc2, hc3⟩); replace HF := a_0 HF; have HEQ := a_0 (show R = (⟨5, x, a, b, c, []⟩, s5) from HE5.out); exact c_z
     ·skip
      refine t_w ?_; intro hclf; have had : b_G ts 5 s4 = ([], s4) := if_neg (by simp [hclf]); have HE5 := HE.out; rw [had] at HE5; replace HE5 := a_0 HE5; clear had HE HE4 HNx hcl; rw [hclf]; clear hclf; obtain ⟨⟨r0, r1, r2, r3, r4, r5, fr, hlR⟩, ⟨b0, b1, b2, b3, b4, b5, bf, hlX⟩, HF⟩ := c_p HI.out HQ.out HR1.out HG1.out hP ⟨5, x, a, b, [], []⟩ ⟨E, n1, F, m1, none, 0, none, 0⟩ (fun v hv => ⟨HF1.out v hv, HF2.out v hv, .inl rfl, .inl rfl, hc1, hc2, l_ _⟩); replace HF := a_0 HF; have HEQ := a_0 (show R = (⟨5, x, a, b, [], []⟩, s4) from HE5.out); exact c_z
    ·skip
     refine t_U ?_; intro hi2 hi3 hi4 HC1 HC2 HC3; have HE := a_0 (HXK.out.trans (show b_2 true ts 6 s1 = (⟨6, (a_7 ts s1).1, (a_t true ts (a_c ts (a_7 ts s1).2 1 wOn)).1.1, (a_t true ts (a_c ts (a_7 ts s1).2 1 wOn)).1.2, (b_G ts 6 (a_t true ts (a_c ts (a_7 ts s1).2 1 wOn)).2).1, []⟩, (b_G ts 6 (a_t true ts (a_c ts (a_7 ts s1).2 1 wOn)).2).2) from rfl)); rw [show a_z true ts (c_1 ts) ([], []) (a_c ts (a_7 ts s1).2 1 wOn) = a_t true ts (a_c ts (a_7 ts s1).2 1 wOn) from rfl] at hi4; clear HXK; generalize a_t true ts (a_c ts (a_7 ts s1).2 1 wOn) = r3 at *; generalize a_c ts (a_7 ts s1).2 1 wOn = s3 at *; generalize a_7 ts s1 = r1 at *; obtain ⟨x, s2⟩ := r1; obtain ⟨⟨a, b⟩, s4⟩ := r3; simp only at HC1 HC2 HC3 HE hi4; refine t_S ?_; intro HC4 HE4 HNx
     go_wp2_with fail
     refine (HC1.out _ HQ5.out).mono ?_; rintro e w6 ⟨rfl, hq⟩; refine s_h ?_; intro HI HQ; clear hq HC1 HI5 HQ5 a0 af hlB k0 k1 k2 hf hPr; refine d_V ?_; intro a0 a1 a2 a3 a4 a5 af hlB; replace HI := a_0 (HI.out.set 1 (str x)); replace HQ := a_0 (HQ.out.boxR hp3 1 (str x))
     go_wp2_with fail
     refine (HC2.out _ HQ.out).mono ?_; rintro e w7 ⟨rfl, hq⟩; replace HI := a_0 (HI.out.step hq.gr); replace HQ := a_0 hq.pt; clear hq HC2; clear a0 a1 a2 a3 a4 a5 af hlB
     go_wp2_with fail
     refine (HC3.out _ HQ.out).mono ?_; rintro e w8 ⟨⟨E, n1, F, m1, rfl, ho⟩, hq⟩; replace HI := a_0 (HI.out.step hq.gr); replace HQ := a_0 hq.pt; refine _ad ?_; intro HF1 HF2 hc1 hc2; clear hq ho HC3; refine d_V ?_; intro a0 a1 a2 a3 a4 a5 af hlB; replace HF1 := a_0 ((HF1.out.keep (HI.out.kept 2 (.slice E a.length n1))).keep ((HI.out.set 2 (.slice E a.length n1)).kept 3 (.slice F b.length m1))); replace HF2 := a_0 ((HF2.out.keep (HI.out.kept 2 (.slice E a.length n1))).keep ((HI.out.set 2 (.slice E a.length n1)).kept 3 (.slice F b.length m1))); replace HI := a_0 (HI.out.set 2 (.slice E a.length n1)); replace HQ := a_0 (HQ.out.boxR hp3 2 (.slice E a.length n1)); replace HI := a_0 (HI.out.set 3 (.slice F b.length m1)); replace HQ := a_0 (HQ.out.boxR hp3 3 (.slice F b.length m1))
     go_wp2_with fail
     refine (HC4.out _ HQ.out).mono ?_; rintro e w9 ⟨rfl, hb⟩; replace HI := a_0 (HI.out.step (a_1 hb)); replace HF1 := a_0 (HF1.out.keep (a_I.of_below hb)); replace HF2 := a_0 (HF2.out.keep (a_I.of_below hb)); replace HQ := a_0 (HQ.out.below hb); clear hb; clear HC4; clear a0 a1 a2 a3 a4 a5 af hlB
     by_cases hcl : isT ts s4 5 a_M = true
     ·skip
      have had : b_G ts 6 s4 = ([], s4) := if_neg s_; have HE5 := HE.out; rw [had] at HE5; replace HE5 := a_0 HE5; clear had HE HE4 HNx; rw [hcl]; clear hcl; exact v_q
     ·skip
      refine t_w ?_; intro hclf; have had : b_G ts 6 s4 = ([], s4) := if_neg (by simp [hclf]); have HE5 := HE.out; rw [had] at HE5; replace HE5 := a_0 HE5; clear had HE HE4 HNx hcl; rw [hclf]; clear hclf; exact v_q
    ·skip
     refine t_U ?_; intro hi2 hi3 hi4 HC1 HC2 HC3; have HE := a_0 (HXK.out.trans (show b_2 true ts 7 s1 = (⟨7, (a_7 ts s1).1, (a_t true ts (a_c ts (a_7 ts s1).2 1 wOn)).1.1, (a_t true ts (a_c ts (a_7 ts s1).2 1 wOn)).1.2, (b_G ts 7 (a_t true ts (a_c ts (a_7 ts s1).2 1 wOn)).2).1, []⟩, (b_G ts 7 (a_t true ts (a_c ts (a_7 ts s1).2 1 wOn)).2).2) from rfl)); rw [show a_z true ts (c_1 ts) ([], []) (a_c ts (a_7 ts s1).2 1 wOn) = a_t true ts (a_c ts (a_7 ts s1).2 1 wOn) from rfl] at hi4; clear HXK; generalize a_t true ts (a_c ts (a_7 ts s1).2 1 wOn) = r3 at *; generalize a_c ts (a_7 ts s1).2 1 wOn = s3 at *; generalize a_7 ts s1 = r1 at *; obtain ⟨x, s2⟩ := r1; obtain ⟨⟨a, b⟩, s4⟩ := r3; simp only at HC1 HC2 HC3 HE hi4; refine t_S ?_; intro HC4 HE4 HNx
     go_wp2_with fail
     refine (HC1.out _ HQ5.out).mono ?_; rintro e w6 ⟨rfl, hq⟩; refine s_h ?_; intro HI HQ; clear hq HC1 HI5 HQ5 a0 af hlB k0 k1 k2 hf hPr; refine d_V ?_; intro a0 a1 a2 a3 a4 a5 af hlB; replace HI := a_0 (HI.out.set 1 (str x)); replace HQ := a_0 (HQ.out.boxR hp3 1 (str x))
     go_wp2_with fail
     refine (HC2.out _ HQ.out).mono ?_; rintro e w7 ⟨rfl, hq⟩; replace HI := a_0 (HI.out.step hq.gr); replace HQ := a_0 hq.pt; clear hq HC2; clear a0 a1 a2 a3 a4 a5 af hlB
     go_wp2_with fail
     refine (HC3.out _ HQ.out).mono ?_; rintro e w8 ⟨⟨E, n1, F, m1, rfl, ho⟩, hq⟩; replace HI := a_0 (HI.out.step hq.gr); replace HQ := a_0 hq.pt; refine _ad ?_; intro HF1 HF2 hc1 hc2; clear hq ho HC3; refine d_V ?_; intro a0 a1 a2 a3 a4 a5 af hlB; replace HF1 := a_0 ((HF1.out.keep (HI.out.kept 2 (.slice E a.length n1))).keep ((HI.out.set 2 (.slice E a.length n1)).kept 3 (.slice F b.length m1))); replace HF2 := a_0 ((HF2.out.keep (HI.out.kept 2 (.slice E a.length n1))).keep ((HI.out.set 2 (.slice E a.length n1)).kept 3 (.slice F b.length m1))); replace HI := a_0 (HI.out.set 2 (.slice E a.length n1)); replace HQ := a_0 (HQ.out.boxR hp3 2 (.slice E a.length n1)); replace HI := a_0 (HI.out.set 3 (.slice F b.length m1)); replace HQ := a_0 (HQ.out.boxR hp3 3 (.slice F b.length m1))
     go_wp2_with fail
     refine (HC4.out _ HQ.out).mono ?_; rintro e w9 ⟨rfl, hb⟩; replace HI := a_0 (HI.out.step (a_1 hb)); replace HF1 := a_0 (HF1.out.keep (a_I.of_below hb)); replace HF2 := a_0 (HF2.out.keep (a_I.of_below hb)); replace HQ := a_0 (HQ.out.below hb); clear hb; clear HC4; clear a0 a1 a2 a3 a4 a5 af hlB
     by_cases hcl : isT ts s4 5 a_M = true
     ·skip
      have had : b_G ts 7 s4 = ([], s4) := if_neg s_; have HE5 := HE.out; rw [had] at HE5; replace HE5 := a_0 HE5; clear had HE HE4 HNx; rw [hcl]; clear hcl; exact w_C
     ·skip
      refine t_w ?_; intro hclf; have had : b_G ts 7 s4 = ([], s4) := if_neg (by simp [hclf]); have HE5 := HE.out; rw [had] at HE5; replace HE5 := a_0 HE5; clear had HE HE4 HNx hcl; rw [hclf]; clear hclf; exact w_C
    ·skip
     have HC := a_0 (fun (W' : World) (h : QPt QR W' P A ts cc s1) => c_V W' P A ts cc s1 h h1i hl0); have HE := a_0 (HXK.out.trans (show b_2 true ts 8 s1 = (⟨8, (a_7 ts s1).1, [], [], [], []⟩, (a_7 ts s1).2) from rfl)); clear HXK; generalize a_7 ts s1 = r at *; obtain ⟨x, s2⟩ := r; simp only at HC HE
     go_wp2_with fail
     refine (HC.out _ HQ5.out).mono ?_; rintro e w6 ⟨rfl, hq⟩; refine s_h ?_; intro HI HQ; clear hq HC HI5 HQ5 a0 af hlB k0 k1 k2 hf hPr; refine d_V ?_; intro a0 a1 a2 a3 a4 a5 af hlB; replace HI := a_0 (HI.out.set 1 (str x)); replace HQ := a_0 (HQ.out.boxR hp3 1 (str x)); obtain ⟨⟨r0, r1, r2, r3, r4, r5, fr, hlR⟩, ⟨b0, b1, b2, b3, b4, b5, bf, hlX⟩, HF⟩ := c_p HI.out HQ.out HR1.out HG1.out hP ⟨8, x, [], [], [], []⟩ ⟨none, 0, none, 0, none, 0, none, 0⟩ (fun v hv => ⟨.inl rfl, .inl rfl, .inl rfl, .inl rfl, l_ _, l_ _, l_ _⟩); replace HF := a_0 HF; have HEQ := a_0 (show R = (⟨8, x, [], [], [], []⟩, s2) from HE.out); exact c_z
    ·skip
     have HC := a_0 (fun (W' : World) (h : QPt QR W' P A ts cc s1) => c_V W' P A ts cc s1 h h1i hl0); have HE := a_0 (HXK.out.trans (show b_2 true ts 9 s1 = (⟨9, (a_7 ts s1).1, [], [], [], []⟩, (a_7 ts s1).2) from rfl)); clear HXK; generalize a_7 ts s1 = r at *; obtain ⟨x, s2⟩ := r; simp only at HC HE
     go_wp2_with fail
     refine (HC.out _ HQ5.out).mono ?_; rintro e w6 ⟨rfl, hq⟩; refine s_h ?_; intro HI HQ; clear hq HC HI5 HQ5 a0 af hlB k0 k1 k2 hf hPr; refine d_V ?_; intro a0 a1 a2 a3 a4 a5 af hlB; replace HI := a_0 (HI.out.set 1 (str x)); replace HQ := a_0 (HQ.out.boxR hp3 1 (str x)); obtain ⟨⟨r0, r1, r2, r3, r4, r5, fr, hlR⟩, ⟨b0, b1, b2, b3, b4, b5, bf, hlX⟩, HF⟩ := c_p HI.out HQ.out HR1.out HG1.out hP ⟨9, x, [], [], [], []⟩ ⟨none, 0, none, 0, none, 0, none, 0⟩ (fun v hv => ⟨.inl rfl, .inl rfl, .inl rfl, .inl rfl, l_ _, l_ _, l_ _⟩); replace HF := a_0 HF; have HEQ := a_0 (show R = (⟨9, x, [], [], [], []⟩, s2) from HE.out); exact c_z
    ·skip
     have HE := a_0 (HXK.out.trans (show b_2 true ts 10 s1 = (⟨10, [], [], [], [], []⟩, s1) from rfl)); clear HXK; have HI := HI5; have HQ := HQ5; clear HI5 HQ5; obtain ⟨q0, q1, q2, q3, q4, q5, qf, hlq⟩ := b_s HRw.out; clear a0; obtain ⟨a0, a1, a2, a3, a4, a5, _, _⟩ := b_s HIw.out; obtain ⟨⟨r0, r1, r2, r3, r4, r5, fr, hlR⟩, ⟨b0, b1, b2, b3, b4, b5, bf, hlX⟩, HF⟩ := c_p HI.out HQ.out HR1.out HG1.out hP ⟨10, [], [], [], [], []⟩ ⟨none, 0, none, 0, none, 0, none, 0⟩ (fun v hv => ⟨.inl rfl, .inl rfl, .inl rfl, .inl rfl, l_ _, l_ _, l_ _⟩); replace HF := a_0 HF; have HEQ := a_0 (show R = (⟨10, [], [], [], [], []⟩, s1) from HE.out)
     go_wp2
     refine t_5 (by rw [HEQ.out]; exact ⟨⟨_, rfl, HF.out.1⟩, HF.out.2⟩) (by simp [results, results120, go_sem, r0, r1, r2, r3, r4, r5, q0, q1, q2, q3, q4, q5])
    ·skip
     have HC0 := a_0 (fun (W' : World) (h : QPt QR W' P A ts cc s1) => e_u W' P A ts cc s1 h h1i hl0); have HC1 := a_0 (fun (W' : World) (h : QPt QR W' P A ts cc s1) => j_y W' P A ts cc s1 hv h h1i hl0); have hi2 : (if a_e ts s1 = true then a_u true ts s1 else ([], s1)).2.i < ts.length := by split; exact (b_x hv (c_s hv) true [] s1 h1i).lt h1i; exact h1i
     have HE := a_0 (HXK.out.trans (show b_2 true ts 11 s1 = e_z true ts s1 from rfl)); unfold e_z at HE; simp only at HE; clear HXK
     by_cases hnm : a_e ts s1 = true
     ·skip
      rw [if_pos hnm] at HE hi2; rw [hnm] at HC0; clear hnm; generalize a_u true ts s1 = r1 at *; obtain ⟨nm, s2⟩ := r1; simp only at HC1 HE hi2; have hi3 := (a_H hv s2 (k := 5) d_ a_M).lt hi2; have HC2 := a_0 (fun (W' : World) (h : QPt QR W' P A ts cc s2) => d_F W' P A ts cc _ h hi2 hl0 a_M); generalize a_c ts s2 5 a_M = b at *; refine v_A ?_; intro HC3 HC4
      go_wp2_with fail
      refine (HC0.out _ HQ5.out).mono ?_; rintro e w5 ⟨rfl, hb⟩; refine t_9 ?_; intro HI HQ; clear hb HC0 HI5 HQ5; clear a0 af hlB k0 k1 k2 hf hPr
      go_wp2_with fail
      refine (HC1.out _ HQ.out).mono ?_; rintro e w6 ⟨⟨B1, n1, rfl, ho⟩, hq⟩; replace HI := a_0 (HI.out.step hq.gr); replace HQ := a_0 hq.pt; have HF1 := a_0 (b_i (l := tI) d_ ho); have hc1 := b_7 ho; clear hq ho HC1; refine d_V ?_; intro a0 a1 a2 a3 a4 a5 af hlB; replace HF1 := a_0 (HF1.out.keep (HI.out.kept 2 (.slice B1 nm.length n1))); replace HI := a_0 (HI.out.set 2 (.slice B1 nm.length n1)); replace HQ := a_0 (HQ.out.boxR hp3 2 (.slice B1 nm.length n1))
      go_wp2_with fail
      refine (HC2.out _ HQ.out).mono ?_; rintro e w7 ⟨rfl, hq⟩; replace HI := a_0 (HI.out.step hq.gr); replace HF1 := a_0 (HF1.out.keep (a_S HQ.out hq.gr d_)); replace HQ := a_0 hq.pt; clear hq HC2 a0 a1 a2 a3 a4 a5 af hlB
      go_wp2_with fail
      refine (HC3.out _ HQ.out).mono ?_; rintro e w8 ⟨rfl, hb⟩; replace HI := a_0 (HI.out.step (a_1 hb)); replace HF1 := a_0 (HF1.out.keep (a_I.of_below hb)); replace HQ := a_0 (HQ.out.below hb); clear hb; clear HC3
      by_cases hfo : (a_e ts b && a_9 (tk ts (b.i + 1)) wEq) = true
      ·skip
       have hfp : a_e ts b = true ∧ a_9 (tk ts (b.i + 1)) wEq = true := by simpa using hfo
       have HE5 := HE.out; rw [if_pos hfp] at HE5; replace HE5 := a_0 HE5; clear HE hfp; generalize a_z true ts (b_n ts c_6) [] b = r5 at *; obtain ⟨c, s5⟩ := r5; simp only at HC4 HE5; rw [hfo]; clear hfo; refine d_V ?_; intro a0 a1 a2 a3 a4 a5 af hlB
       go_wp2_with fail
       refine (HC4.out _ HQ.out).mono ?_; rintro e w9 ⟨⟨I, n5, es, rfl, ho⟩, hq⟩; replace HI := a_0 (HI.out.step hq.gr); replace HF1 := a_0 (HF1.out.keep (a_S HQ.out hq.gr d_)); replace HQ := a_0 hq.pt; refine p_5 ?_; intro HF3 hc3; clear hq ho HC4; clear a0 a1 a2 a3 a4 a5 af hlB; refine d_V ?_; intro a0 a1 a2 a3 a4 a5 af hlB; replace HF1 := a_0 (HF1.out.keep (HI.out.kept 4 (.slice I c.length n5))); replace HF3 := a_0 (HF3.out.keep (HI.out.kept 4 (.slice I c.length n5))); replace HI := a_0 (HI.out.set 4 (.slice I c.length n5)); replace HQ := a_0 (HQ.out.boxR hp3 4 (.slice I c.length n5)); obtain ⟨⟨r0, r1, r2, r3, r4, r5, fr, hlR⟩, ⟨b0, b1, b2, b3, b4, b5, bf, hlX⟩, HF⟩ := c_p HI.out HQ.out HR1.out HG1.out hP ⟨11, [], nm, [], c, []⟩ ⟨B1, n1, none, 0, I, n5, none, 0⟩ (fun v hv => ⟨HF1.out v hv, .inl rfl, HF3.out v hv, .inl rfl, hc1, l_ _, hc3⟩); replace HF := a_0 HF; have HEQ := a_0 (show R = (⟨11, [], nm, [], c, []⟩, s5) from HE5.out); exact c_z
      ·skip
       have hff : (a_e ts b && a_9 (tk ts (b.i + 1)) wEq) = false := by simpa using hfo
       have HE5 := HE.out; rw [if_neg (fun h => hfo (by simp [h.1, h.2]))] at HE5; replace HE5 := a_0 HE5; clear HE hfo HC4; rw [hff]; clear hff; obtain ⟨⟨r0, r1, r2, r3, r4, r5, fr, hlR⟩, ⟨b0, b1, b2, b3, b4, b5, bf, hlX⟩, HF⟩ := c_p HI.out HQ.out HR1.out HG1.out hP ⟨11, [], nm, [], [], []⟩ ⟨B1, n1, none, 0, none, 0, none, 0⟩ (fun v hv => ⟨HF1.out v hv, .inl rfl, .inl rfl, .inl rfl, hc1, l_ _, l_ _⟩); replace HF := a_0 HF; have HEQ := a_0 (show R = (⟨11, [], nm, [], [], []⟩, b) from HE5.out); exact c_z
     ·skip
      have hnf : a_e ts s1 = false := by simpa using hnm
      rw [if_neg hnm] at HE hi2; rw [hnf] at HC0; clear hnm hnf HC1; simp only at HE hi2; have hi3 := (a_H hv s1 (k := 5) d_ a_M).lt hi2; have HC2 := a_0 (fun (W' : World) (h : QPt QR W' P A ts cc s1) => d_F W' P A ts cc _ h hi2 hl0 a_M); generalize a_c ts s1 5 a_M = b at *; refine v_A ?_; intro HC3 HC4
      go_wp2_with fail
      refine (HC0.out _ HQ5.out).mono ?_; rintro e w5 ⟨rfl, hb⟩; refine t_9 ?_; intro HI HQ; clear hb HC0 HI5 HQ5
      go_wp2_with fail
      refine (HC2.out _ HQ.out).mono ?_; rintro e w7 ⟨rfl, hq⟩; replace HI := a_0 (HI.out.step hq.gr); replace HQ := a_0 hq.pt; clear hq HC2 a0 af hlB k0 k1 k2 hf hPr
      go_wp2_with fail
      refine (HC3.out _ HQ.out).mono ?_; rintro e w8 ⟨rfl, hb⟩; replace HI := a_0 (HI.out.step (a_1 hb)); replace HQ := a_0 (HQ.out.below hb); clear hb; clear HC3
      by_cases hfo : (a_e ts b && a_9 (tk ts (b.i + 1)) wEq) = true
      ·skip
       have hfp : a_e ts b = true ∧ a_9 (tk ts (b.i + 1)) wEq = true := by simpa using hfo
       have HE5 := HE.out; rw [if_pos hfp] at HE5; replace HE5 := a_0 HE5; clear HE hfp; generalize a_z true ts (b_n ts c_6) [] b = r5 at *; obtain ⟨c, s5⟩ := r5; simp only at HC4 HE5; rw [hfo]; clear hfo; refine d_V ?_; intro a0 a1 a2 a3 a4 a5 af hlB
       go_wp2_with fail
       refine (HC4.out _ HQ.out).mono ?_; rintro e w9 ⟨⟨I, n5, es, rfl, ho⟩, hq⟩; replace HI := a_0 (HI.out.step hq.gr); replace HQ := a_0 hq.pt; refine p_5 ?_; intro HF3 hc3; clear hq ho HC4; clear a0 a1 a2 a3 a4 a5 af hlB; refine d_V ?_; intro a0 a1 a2 a3 a4 a5 af hlB; replace HF3 := a_0 (HF3.out.keep (HI.out.kept 4 (.slice I c.length n5))); replace HI := a_0 (HI.out.set 4 (.slice I c.length n5)); replace HQ := a_0 (HQ.out.boxR hp3 4 (.slice I c.length n5)); obtain ⟨⟨r0, r1, r2, r3, r4, r5, fr, hlR⟩, ⟨b0, b1, b2, b3, b4, b5, bf, hlX⟩, HF⟩ := c_p HI.out HQ.out HR1.out HG1.out hP ⟨11, [], [], [], c, []⟩ ⟨none, 0, none, 0, I, n5, none, 0⟩ (fun v hv => ⟨.inl rfl, .inl rfl, HF3.out v hv, .inl rfl, l_ _, l_ _, hc3⟩); replace HF := a_0 HF; have HEQ := a_0 (show R = (⟨11, [], [], [], c, []⟩, s5) from HE5.out); exact c_z
      ·skip
       have hff : (a_e ts b && a_9 (tk ts (b.i + 1)) wEq) = false := by simpa using hfo
       have HE5 := HE.out; rw [if_neg (fun h => hfo (by simp [h.1, h.2]))] at HE5; replace HE5 := a_0 HE5; clear HE hfo HC4; rw [hff]; clear hff; obtain ⟨⟨r0, r1, r2, r3, r4, r5, fr, hlR⟩, ⟨b0, b1, b2, b3, b4, b5, bf, hlX⟩, HF⟩ := c_p HI.out HQ.out HR1.out HG1.out hP ⟨11, [], [], [], [], []⟩ ⟨none, 0, none, 0, none, 0, none, 0⟩ (fun v hv => ⟨.inl rfl, .inl rfl, .inl rfl, .inl rfl, l_ _, l_ _, l_ _⟩); replace HF := a_0 HF; have HEQ := a_0 (show R = (⟨11, [], [], [], [], []⟩, b) from HE5.out); exact c_z
    ·skip
     have HC0 := a_0 (fun (W' : World) (h : QPt QR W' P A ts cc s1) => e_u W' P A ts cc s1 h h1i hl0); have HCw := a_0 (fun (W' : World) (h : QPt QR W' P A ts cc s1) => h_d W' P A ts cc s1 h h1i hl0 wBy); have HC1 := a_0 (fun (W' : World) (h : QPt QR W' P A ts cc s1) => j_y W' P A ts cc s1 hv h h1i hl0); have hi2 : (if a_e ts s1 = true ∧ isT ts s1 1 wBy = false then a_u true ts s1 else ([], s1)).2.i < ts.length := by split; exact (b_x hv (c_s hv) true [] s1 h1i).lt h1i; exact h1i
     have HE := a_0 (HXK.out.trans (show b_2 true ts 12 s1 = d_m true ts s1 from rfl)); unfold d_m at HE; simp only at HE; clear HXK
     by_cases hnm : a_e ts s1 = true
     ·skip
      by_cases hby : isT ts s1 1 wBy = true
      ·skip
       rw [if_neg (by simp [hby])] at HE hi2; rw [hnm] at HC0; rw [hby] at HCw; clear hnm hby HC1; simp only at HE hi2; refine w_E ?_; intro hi3 HC2; generalize a_c ts s1 1 wBy = b at *; refine u_g ?_; intro HC3 HC4 hi4
       go_wp2_with fail
       refine (HC0.out _ HQ5.out).mono ?_; rintro e w4 ⟨rfl, hb⟩; refine t_9 ?_; intro HI HQ; clear hb HC0 HI5 HQ5
       go_wp2_with fail
       refine (HCw.out _ HQ.out).mono ?_; rintro e w5 ⟨rfl, hb⟩; replace HI := a_0 (HI.out.step (a_1 hb)); replace HQ := a_0 (HQ.out.below hb); clear hb; clear HCw
       go_wp2_with fail
       refine (HC2.out _ HQ.out).mono ?_; rintro e w7 ⟨rfl, hq⟩; replace HI := a_0 (HI.out.step hq.gr); replace HQ := a_0 hq.pt; clear hq HC2 a0 af hlB k0 k1 k2 hf hPr
       go_wp2_with fail
       refine (HC3.out _ HQ.out).mono ?_; rintro e w8 ⟨rfl, hb⟩; replace HI := a_0 (HI.out.step (a_1 hb)); replace HQ := a_0 (HQ.out.below hb); clear hb; clear HC3
       by_cases hob : a_e ts b = true
       ·skip
        have HE5 := HE.out; rw [if_pos hob] at HE5 hi4; replace HE5 := a_0 HE5; clear HE; generalize a_u true ts b = r4 at *; obtain ⟨ob, s4⟩ := r4; simp only at HC4 HE5 hi4; rw [hob]; clear hob; refine v_3 ?_; intro hi5 HC5; generalize a_c ts s4 5 a_M = d at *; refine s_7 ?_; intro HC6; generalize a_z true ts (b_n ts b_g) [] d = r6 at *; obtain ⟨c, s6⟩ := r6; simp only at HC6 HE5
        go_wp2_with fail
        refine (HC4.out _ HQ.out).mono ?_; rintro e w9 ⟨⟨B2, n2, rfl, ho⟩, hq⟩; replace HI := a_0 (HI.out.step hq.gr); replace HQ := a_0 hq.pt; have HF2 := a_0 (b_i (l := tI) d_ ho); have hc2 := b_7 ho; clear hq ho HC4; refine d_V ?_; intro a0 a1 a2 a3 a4 a5 af hlB; replace HF2 := a_0 (HF2.out.keep (HI.out.kept 3 (.slice B2 ob.length n2))); replace HI := a_0 (HI.out.set 3 (.slice B2 ob.length n2)); replace HQ := a_0 (HQ.out.boxR hp3 3 (.slice B2 ob.length n2))
        go_wp2_with fail
        refine (HC5.out _ HQ.out).mono ?_; rintro e w10 ⟨rfl, hq⟩; replace HI := a_0 (HI.out.step hq.gr); replace HF2 := a_0 (HF2.out.keep (a_S HQ.out hq.gr d_)); replace HQ := a_0 hq.pt; clear hq HC5; clear a0 a1 a2 a3 a4 a5 af hlB; refine d_V ?_; intro a0 a1 a2 a3 a4 a5 af hlB
        go_wp2_with fail
        refine (HC6.out _ HQ.out).mono ?_; rintro e w11 ⟨⟨I, n5, es, rfl, ho⟩, hq⟩; replace HI := a_0 (HI.out.step hq.gr); replace HF2 := a_0 (HF2.out.keep (a_S HQ.out hq.gr d_)); replace HQ := a_0 hq.pt; refine p_5 ?_; intro HF3 hc3; clear hq ho HC6; clear a0 a1 a2 a3 a4 a5 af hlB; refine d_V ?_; intro a0 a1 a2 a3 a4 a5 af hlB; exact w_B
       ·skip
        have hof : a_e ts b = false := by simpa using hob
        have HE5 := HE.out; rw [if_neg hob] at HE5 hi4; replace HE5 := a_0 HE5; clear HE hob HC4; simp only at HE5 hi4; rw [hof]; clear hof; refine _af ?_; intro hi5 HC5; generalize a_c ts b 5 a_M = d at *; refine s_7 ?_; intro HC6; generalize a_z true ts (b_n ts b_g) [] d = r6 at *; obtain ⟨c, s6⟩ := r6; simp only at HC6 HE5
        go_wp2_with fail
        refine (HC5.out _ HQ.out).mono ?_; rintro e w10 ⟨rfl, hq⟩; replace HI := a_0 (HI.out.step hq.gr); replace HQ := a_0 hq.pt; clear hq HC5; refine d_V ?_; intro a0 a1 a2 a3 a4 a5 af hlB
        go_wp2_with fail
        refine (HC6.out _ HQ.out).mono ?_; rintro e w11 ⟨⟨I, n5, es, rfl, ho⟩, hq⟩; replace HI := a_0 (HI.out.step hq.gr); replace HQ := a_0 hq.pt; refine p_5 ?_; intro HF3 hc3; clear hq ho HC6; clear a0 a1 a2 a3 a4 a5 af hlB; refine d_V ?_; intro a0 a1 a2 a3 a4 a5 af hlB; exact w_b
      ·skip
       have hbf : isT ts s1 1 wBy = false := by simpa using hby
       rw [if_pos ⟨hnm, hbf⟩] at HE hi2; rw [hnm] at HC0; rw [hbf] at HCw; clear hnm hby hbf; generalize a_u true ts s1 = r1 at *; obtain ⟨nm, s2⟩ := r1; simp only at HC1 HE hi2; have hi3 := (a_H hv s2 (k := 1) d_ wBy).lt hi2; have HC2 := a_0 (fun (W' : World) (h : QPt QR W' P A ts cc s2) => e_S W' P A ts cc _ h hi2 hl0 wBy); generalize a_c ts s2 1 wBy = b at *; refine u_g ?_; intro HC3 HC4 hi4
       go_wp2_with fail
       refine (HC0.out _ HQ5.out).mono ?_; rintro e w4 ⟨rfl, hb⟩; refine t_9 ?_; intro HI HQ; clear hb HC0 HI5 HQ5
       go_wp2_with fail
       refine (HCw.out _ HQ.out).mono ?_; rintro e w5 ⟨rfl, hb⟩; replace HI := a_0 (HI.out.step (a_1 hb)); replace HQ := a_0 (HQ.out.below hb); clear hb; clear HCw; clear a0 af hlB k0 k1 k2 hf hPr
       go_wp2_with fail
       refine (HC1.out _ HQ.out).mono ?_; rintro e w6 ⟨⟨B1, n1, rfl, ho⟩, hq⟩; replace HI := a_0 (HI.out.step hq.gr); replace HQ := a_0 hq.pt; have HF1 := a_0 (b_i (l := tI) d_ ho); have hc1 := b_7 ho; clear hq ho HC1; refine d_V ?_; intro a0 a1 a2 a3 a4 a5 af hlB; replace HF1 := a_0 (HF1.out.keep (HI.out.kept 2 (.slice B1 nm.length n1))); replace HI := a_0 (HI.out.set 2 (.slice B1 nm.length n1)); replace HQ := a_0 (HQ.out.boxR hp3 2 (.slice B1 nm.length n1))
       go_wp2_with fail
       refine (HC2.out _ HQ.out).mono ?_; rintro e w7 ⟨rfl, hq⟩; replace HI := a_0 (HI.out.step hq.gr); replace HF1 := a_0 (HF1.out.keep (a_S HQ.out hq.gr d_)); replace HQ := a_0 hq.pt; clear hq HC2 a0 a1 a2 a3 a4 a5 af hlB
       go_wp2_with fail
       refine (HC3.out _ HQ.out).mono ?_; rintro e w8 ⟨rfl, hb⟩; replace HI := a_0 (HI.out.step (a_1 hb)); replace HF1 := a_0 (HF1.out.keep (a_I.of_below hb)); replace HQ := a_0 (HQ.out.below hb); clear hb; clear HC3
       by_cases hob : a_e ts b = true
       ·skip
        have HE5 := HE.out; rw [if_pos hob] at HE5 hi4; replace HE5 := a_0 HE5; clear HE; generalize a_u true ts b = r4 at *; obtain ⟨ob, s4⟩ := r4; simp only at HC4 HE5 hi4; rw [hob]; clear hob; refine v_3 ?_; intro hi5 HC5; generalize a_c ts s4 5 a_M = d at *; refine s_7 ?_; intro HC6; generalize a_z true ts (b_n ts b_g) [] d = r6 at *; obtain ⟨c, s6⟩ := r6; simp only at HC6 HE5
        go_wp2_with fail
        refine (HC4.out _ HQ.out).mono ?_; rintro e w9 ⟨⟨B2, n2, rfl, ho⟩, hq⟩; replace HI := a_0 (HI.out.step hq.gr); replace HF1 := a_0 (HF1.out.keep (a_S HQ.out hq.gr d_)); replace HQ := a_0 hq.pt; have HF2 := a_0 (b_i (l := tI) d_ ho); have hc2 := b_7 ho; clear hq ho HC4; refine d_V ?_; intro a0 a1 a2 a3 a4 a5 af hlB; replace HF1 := a_0 (HF1.out.keep (HI.out.kept 3 (.slice B2 ob.length n2))); replace HF2 := a_0 (HF2.out.keep (HI.out.kept 3 (.slice B2 ob.length n2))); replace HI := a_0 (HI.out.set 3 (.slice B2 ob.length n2)); replace HQ := a_0 (HQ.out.boxR hp3 3 (.slice B2 ob.length n2))
        go_wp2_with fail
        refine (HC5.out _ HQ.out).mono ?_; rintro e w10 ⟨rfl, hq⟩; replace HI := a_0 (HI.out.step hq.gr); replace HF1 := a_0 (HF1.out.keep (a_S HQ.out hq.gr d_)); replace HF2 := a_0 (HF2.out.keep (a_S HQ.out hq.gr d_)); replace HQ := a_0 hq.pt; clear hq HC5; clear a0 a1 a2 a3 a4 a5 af hlB; refine d_V ?_; intro a0 a1 a2 a3 a4 a5 af hlB
        go_wp2_with fail
        refine (HC6.out _ HQ.out).mono ?_; rintro e w11 ⟨⟨I, n5, es, rfl, ho⟩, hq⟩; replace HI := a_0 (HI.out.step hq.gr); replace HF1 := a_0 (HF1.out.keep (a_S HQ.out hq.gr d_)); replace HF2 := a_0 (HF2.out.keep (a_S HQ.out hq.gr d_)); replace HQ := a_0 hq.pt; refine p_5 ?_; intro HF3 hc3; clear hq ho HC6; clear a0 a1 a2 a3 a4 a5 af hlB; refine d_V ?_; intro a0 a1 a2 a3 a4 a5 af hlB; replace HF1 := a_0 (HF1.out.keep (HI.out.kept 4 (.slice I c.length n5))); replace HF2 := a_0 (HF2.out.keep (HI.out.kept 4 (.slice I c.length n5))); replace HF3 := a_0 (HF3.out.keep (HI.out.kept 4 (.slice I c.length n5))); replace HI := a_0 (HI.out.set 4 (.slice I c.length n5)); replace HQ := a_0 (HQ.out.boxR hp3 4 (.slice I c.length n5)); obtain ⟨⟨r0, r1, r2, r3, r4, r5, fr, hlR⟩, ⟨b0, b1, b2, b3, b4, b5, bf, hlX⟩, HF⟩ := c_p HI.out HQ.out HR1.out HG1.out hP ⟨12, [], nm, ob, c, []⟩ ⟨B1, n1, B2, n2, I, n5, none, 0⟩ (fun v hv => ⟨HF1.out v hv, HF2.out v hv, HF3.out v hv, .inl rfl, hc1, hc2, hc3⟩); replace HF := a_0 HF; have HEQ := a_0 (show R = (⟨12, [], nm, ob, c, []⟩, s6) from HE5.out); exact c_z
       ·skip
        have hof : a_e ts b = false := by simpa using hob
        have HE5 := HE.out; rw [if_neg hob] at HE5 hi4; replace HE5 := a_0 HE5; clear HE hob HC4; simp only at HE5 hi4; rw [hof]; clear hof; refine _af ?_; intro hi5 HC5; generalize a_c ts b 5 a_M = d at *; refine s_7 ?_; intro HC6; generalize a_z true ts (b_n ts b_g) [] d = r6 at *; obtain ⟨c, s6⟩ := r6; simp only at HC6 HE5
        go_wp2_with fail
        refine (HC5.out _ HQ.out).mono ?_; rintro e w10 ⟨rfl, hq⟩; replace HI := a_0 (HI.out.step hq.gr); replace HF1 := a_0 (HF1.out.keep (a_S HQ.out hq.gr d_)); replace HQ := a_0 hq.pt; clear hq HC5; refine d_V ?_; intro a0 a1 a2 a3 a4 a5 af hlB
        go_wp2_with fail
        refine (HC6.out _ HQ.out).mono ?_; rintro e w11 ⟨⟨I, n5, es, rfl, ho⟩, hq⟩; replace HI := a_0 (HI.out.step hq.gr); replace HF1 := a_0 (HF1.out.keep (a_S HQ.out hq.gr d_)); replace HQ := a_0 hq.pt; refine p_5 ?_; intro HF3 hc3; clear hq ho HC6; clear a0 a1 a2 a3 a4 a5 af hlB; refine d_V ?_; intro a0 a1 a2 a3 a4 a5 af hlB; replace HF1 := a_0 (HF1.out.keep (HI.out.kept 4 (.slice I c.length n5))); replace HF3 := a_0 (HF3.out.keep (HI.out.kept 4 (.slice I c.length n5))); replace HI := a_0 (HI.out.set 4 (.slice I c.length n5)); replace HQ := a_0 (HQ.out.boxR hp3 4 (.slice I c.length n5)); obtain ⟨⟨r0, r1, r2, r3, r4, r5, fr, hlR⟩, ⟨b0, b1, b2, b3, b4, b5, bf, hlX⟩, HF⟩ := c_p HI.out HQ.out HR1.out HG1.out hP ⟨12, [], nm, [], c, []⟩ ⟨B1, n1, none, 0, I, n5, none, 0⟩ (fun v hv => ⟨HF1.out v hv, .inl rfl, HF3.out v hv, .inl rfl, hc1, l_ _, hc3⟩); replace HF := a_0 HF; have HEQ := a_0 (show R = (⟨12, [], nm, [], c, []⟩, s6) from HE5.out); exact c_z
     ·skip
      have hnf : a_e ts s1 = false := by simpa using hnm
      rw [if_neg (fun h => hnm h.1)] at HE hi2; rw [hnf] at HC0; clear hnm hnf HC1 HCw; simp only at HE hi2; refine w_E ?_; intro hi3 HC2; generalize a_c ts s1 1 wBy = b at *; refine u_g ?_; intro HC3 HC4 hi4
      go_wp2_with fail
      refine (HC0.out _ HQ5.out).mono ?_; rintro e w4 ⟨rfl, hb⟩; refine t_9 ?_; intro HI HQ; clear hb HC0 HI5 HQ5
      go_wp2_with fail
      refine (HC2.out _ HQ.out).mono ?_; rintro e w7 ⟨rfl, hq⟩; replace HI := a_0 (HI.out.step hq.gr); replace HQ := a_0 hq.pt; clear hq HC2 a0 af hlB k0 k1 k2 hf hPr
      go_wp2_with fail
      refine (HC3.out _ HQ.out).mono ?_; rintro e w8 ⟨rfl, hb⟩; replace HI := a_0 (HI.out.step (a_1 hb)); replace HQ := a_0 (HQ.out.below hb); clear hb; clear HC3
      by_cases hob : a_e ts b = true
      ·skip
       have HE5 := HE.out; rw [if_pos hob] at HE5 hi4; replace HE5 := a_0 HE5; clear HE; generalize a_u true ts b = r4 at *; obtain ⟨ob, s4⟩ := r4; simp only at HC4 HE5 hi4; rw [hob]; clear hob; refine v_3 ?_; intro hi5 HC5; generalize a_c ts s4 5 a_M = d at *; refine s_7 ?_; intro HC6; generalize a_z true ts (b_n ts b_g) [] d = r6 at *; obtain ⟨c, s6⟩ := r6; simp only at HC6 HE5
       go_wp2_with fail
       refine (HC4.out _ HQ.out).mono ?_; rintro e w9 ⟨⟨B2, n2, rfl, ho⟩, hq⟩; replace HI := a_0 (HI.out.step hq.gr); replace HQ := a_0 hq.pt; have HF2 := a_0 (b_i (l := tI) d_ ho); have hc2 := b_7 ho; clear hq ho HC4; refine d_V ?_; intro a0 a1 a2 a3 a4 a5 af hlB; replace HF2 := a_0 (HF2.out.keep (HI.out.kept 3 (.slice B2 ob.length n2))); replace HI := a_0 (HI.out.set 3 (.slice B2 ob.length n2)); replace HQ := a_0 (HQ.out.boxR hp3 3 (.slice B2 ob.length n2))
       go_wp2_with fail
       refine (HC5.out _ HQ.out).mono ?_; rintro e w10 ⟨rfl, hq⟩; replace HI := a_0 (HI.out.step hq.gr); replace HF2 := a_0 (HF2.out.keep (a_S HQ.out hq.gr d_)); replace HQ := a_0 hq.pt; clear hq HC5; clear a0 a1 a2 a3 a4 a5 af hlB; refine d_V ?_; intro a0 a1 a2 a3 a4 a5 af hlB
       go_wp2_with fail
       refine (HC6.out _ HQ.out).mono ?_; rintro e w11 ⟨⟨I, n5, es, rfl, ho⟩, hq⟩; replace HI := a_0 (HI.out.step hq.gr); replace HF2 := a_0 (HF2.out.keep (a_S HQ.out hq.gr d_)); replace HQ := a_0 hq.pt; refine p_5 ?_; intro HF3 hc3; clear hq ho HC6; clear a0 a1 a2 a3 a4 a5 af hlB; refine d_V ?_; intro a0 a1 a2 a3 a4 a5 af hlB; exact w_B
      ·skip
       have hof : a_e ts b = false := by simpa using hob
       have HE5 := HE.out; rw [if_neg hob] at HE5 hi4; replace HE5 := a_0 HE5; clear HE hob HC4; simp only at HE5 hi4; rw [hof]; clear hof; refine _af ?_; intro hi5 HC5; generalize a_c ts b 5 a_M = d at *; refine s_7 ?_; intro HC6; generalize a_z true ts (b_n ts b_g) [] d = r6 at *; obtain ⟨c, s6⟩ := r6; simp only at HC6 HE5
       go_wp2_with fail
       refine (HC5.out _ HQ.out).mono ?_; rintro e w10 ⟨rfl, hq⟩; replace HI := a_0 (HI.out.step hq.gr); replace HQ := a_0 hq.pt; clear hq HC5; refine d_V ?_; intro a0 a1 a2 a3 a4 a5 af hlB
       go_wp2_with fail
       refine (HC6.out _ HQ.out).mono ?_; rintro e w11 ⟨⟨I, n5, es, rfl, ho⟩, hq⟩; replace HI := a_0 (HI.out.step hq.gr); replace HQ := a_0 hq.pt; refine p_5 ?_; intro HF3 hc3; clear hq ho HC6; clear a0 a1 a2 a3 a4 a5 af hlB; refine d_V ?_; intro a0 a1 a2 a3 a4 a5 af hlB; exact w_b
   ·have hf0 : (if v = true then wf y else 0) = 0 := by
     by_cases h1 : v = true
     ·rw [if_pos h1]
      by_cases h2 : wf y = 0
      ·exact h2
      ·exact absurd ⟨h1, h2⟩ hz
     ·rw [if_neg h1]
    have HXK := a_0 (HXX.out.trans (if_neg hz)); rw [hf0] at HI; refine d_V ?_; intro a0 a1 a2 a3 a4 a5 af hlB; clear HXX hz hf0 hIn HN1 HN0
    go_wp2_with fail
    refine (HFl.out wr HQ.out).mono ?_; rintro e w9 ⟨rfl, hq⟩; replace HI := a_0 (HI.out.step hq.gr); replace HQ := a_0 hq.pt; clear hq HFl a0 a1 a2 a3 a4 a5 af hlB; obtain ⟨⟨r0, r1, r2, r3, r4, r5, fr, hlR⟩, ⟨b0, b1, b2, b3, b4, b5, bf, hlX⟩, HF⟩ := c_p HI.out HQ.out HR1.out HG1.out hP ⟨0, [], [], [], [], []⟩ ⟨none, 0, none, 0, none, 0, none, 0⟩ (fun v hv => ⟨.inl rfl, .inl rfl, .inl rfl, .inl rfl, l_ _, l_ _, l_ _⟩); replace HF := a_0 HF; have HEQ := a_0 (show R = (⟨0, [], [], [], [], []⟩, s.fail 3) from HXK.out); exact c_z
end Go.Proofs.YtmbeeefkpgfgmaaGreatDoor
