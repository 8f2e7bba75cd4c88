/- Parts of the proof. -/
import Derived.Test.YtmbeeefkpgfgmaaGreatDoorPp14
import Derived.Maps.AppendAt
import Derived.Laws.AppendOwn
import Derived.Lib.ConvBytes
set_option linter.unusedVariables false
set_option linter.unusedSimpArgs false
set_option maxHeartbeats 2000000
namespace Go.Proofs.YtmbeeefkpgfgmaaGreatDoor
open Go.Proofs.Tryz
section
open Go.RowKit
def n_2 (w : World) (P : Nat) (A : Option Addr) (ts : List Tok) : Prop := ∃ g off, A = some ⟨g, off, none⟩ ∧ g < P ∧ ∀ i (h : i < ts.length),
  w.cell? ⟨g, off + i * 4, none⟩ = some (.int .i64 ts[i].kind) ∧ w.cell? ⟨g, off + i * 4 + 1, none⟩ = some (str ts[i].text) ∧
  w.cell? ⟨g, off + i * 4 + 2, none⟩ = some (.int .i64 ts[i].num) ∧ w.cell? ⟨g, off + i * 4 + 3, none⟩ = some (.int .i64 ts[i].off)
theorem n_2.fr {w w' : World} {P : Nat} {A : Option Addr} {ts : List Tok} (h : n_2 w P A ts) (hg : w.grownBy w' (some P)) : n_2 w' P A ts := by
 obtain ⟨g, off, rfl, hP, hc⟩ := h
 refine ⟨g, off, rfl, hP, fun i hi => ?_⟩
 have hne : ∀ o, some (⟨g, o, none⟩ : Addr).block ≠ some P := fun o e => by injection e with e; simp at e; omega
 obtain ⟨h1, h2, h3, h4⟩ := hc i hi
 exact ⟨hg.cell h1 (hne _), hg.cell h2 (hne _), hg.cell h3 (hne _), hg.cell h4 (hne _)⟩
def o_Y (w : World) (P : Nat) : Prop := 2 < P ∧ ∃ b off c, b < P ∧ w.cell? ⟨2, 0, none⟩ = some (.slice (some ⟨b, off, none⟩) 8 c) ∧ ∀ j, j < 8 → w.cell? ⟨b, off + j, none⟩ = some (str (a_J.getD j []))
theorem o_Y.fr {w w' : World} {P : Nat} (h : o_Y w P) (hg : w.grownBy w' (some P)) : o_Y w' P := by
 obtain ⟨h0, b, off, c, hb, h1, h2⟩ := h
 have hne : ∀ g o, g < P → some (⟨g, o, none⟩ : Addr).block ≠ some P := fun g o hg e => by injection e with e; simp at e; omega
 exact ⟨h0, b, off, c, hb, hg.cell h1 (hne _ _ h0), fun j hj => hg.cell (h2 j hj) (hne _ _ hb)⟩
theorem o_Y.words {w : World} {P : Nat} (h : o_Y w P) (hP : P < w.heap.size) : a_X w 2 a_J := by
 obtain ⟨h0, b, off, c, hb, h1, h2⟩ := h
 exact ⟨Nat.lt_trans h0 hP, b, off, c, Nat.lt_trans hb hP, h1, h2⟩
theorem o_Y.of_words {w : World} (h : a_X w 2 a_J) : o_Y w w.heap.size := by
 obtain ⟨h0, b, off, c, hb, h1, h2⟩ := h
 exact ⟨h0, b, off, c, hb, h1, h2⟩
structure PSt (T : TypeId) (w : World) (P : Nat) (A : Option Addr) (ts : List Tok) (c i d : Nat) (e : Int) : Prop where
 blk : w.heap[P]? = some (.cells #[.slice A ts.length c, .int .i64 i, .int .i64 d, .int .i64 e] T (0, 0))
 tok : n_2 w P A ts
 wrd : o_Y w P
theorem PSt.lt {T : TypeId} {w : World} {P : Nat} {A : Option Addr} {ts : List Tok} {c i d : Nat} {e : Int} (h : PSt T w P A ts c i d e) : P < w.heap.size := (Array.getElem?_eq_some_iff.1 h.blk).1
theorem PSt.cells {T : TypeId} {w : World} {P : Nat} {A : Option Addr} {ts : List Tok} {c i d : Nat} {e : Int} (h : PSt T w P A ts c i d e) :
  w.cell? ⟨P, 0, none⟩ = some (.slice A ts.length c) ∧ w.cell? ⟨P, 1, none⟩ = some (.int .i64 i) ∧ w.cell? ⟨P, 2, none⟩ = some (.int .i64 d) ∧ w.cell? ⟨P, 3, none⟩ = some (.int .i64 e) := by
 have hb := h.blk
 simp [World.cell?, hb]
theorem PSt.free {T : TypeId} {w : World} {P : Nat} {A : Option Addr} {ts : List Tok} {c i d : Nat} {e : Int} (h : PSt T w P A ts c i d e) (o : Nat) : w.frozen? ⟨P, o, none⟩ = false := by
 have hb := h.blk
 simp [World.frozen?, hb]
theorem a_1 {w w' : World} {r : Option Nat} (h : Below w.heap.size w w') : w.grownBy w' r := ⟨h.os, h.tape, h.output, h.size, fun k hk _ => h.block k hk⟩
theorem PSt.below {T : TypeId} {w w' : World} {P : Nat} {A : Option Addr} {ts : List Tok} {c i d : Nat} {e : Int} (h : PSt T w P A ts c i d e) (hb : Below w.heap.size w w') : PSt T w' P A ts c i d e :=
 ⟨(hb.block P h.lt).trans h.blk, h.tok.fr (a_1 hb), h.wrd.fr (a_1 hb)⟩
theorem a_d {w w' : World} {b : Nat} (h : w.grownBy w' (some b)) (i : Nat) (v : Value) : w.grownBy (w'.setCell ⟨b, i, none⟩ v) (some b) :=
 ⟨h.os, h.tape, h.output, by simpa [World.setCell] using h.size, fun k hk hne => (Below.heap_setCell _ _ _ _ (fun e => hne (by rw [e]))).trans (h.block k hk hne)⟩
theorem PSt.setAt {T : TypeId} {w : World} {P : Nat} {A : Option Addr} {ts : List Tok} {c i d : Nat} {e : Int} (h : PSt T w P A ts c i d e) (j : Nat) : PSt T (w.setCell ⟨P, 1, none⟩ (.int .i64 j)) P A ts c j d e :=
 ⟨by have := heap_setCell_same w P 1 _ _ (.int .i64 (j : Int)) h.blk; simpa using this, h.tok.fr (a_d (g_ _ _) _ _), h.wrd.fr (a_d (g_ _ _) _ _)⟩
theorem PSt.setDepth {T : TypeId} {w : World} {P : Nat} {A : Option Addr} {ts : List Tok} {c i d : Nat} {e : Int} (h : PSt T w P A ts c i d e) (j : Nat) : PSt T (w.setCell ⟨P, 2, none⟩ (.int .i64 j)) P A ts c i j e :=
 ⟨by have := heap_setCell_same w P 2 _ _ (.int .i64 (j : Int)) h.blk; simpa using this, h.tok.fr (a_d (g_ _ _) _ _), h.wrd.fr (a_d (g_ _ _) _ _)⟩
theorem PSt.setErr {T : TypeId} {w : World} {P : Nat} {A : Option Addr} {ts : List Tok} {c i d : Nat} {e : Int} (h : PSt T w P A ts c i d e) (x : Int) : PSt T (w.setCell ⟨P, 3, none⟩ (.int .i64 x)) P A ts c i d x :=
 ⟨by have := heap_setCell_same w P 3 _ _ (.int .i64 x) h.blk; simpa using this, h.tok.fr (a_d (g_ _ _) _ _), h.wrd.fr (a_d (g_ _ _) _ _)⟩
theorem n_2.at_ {w : World} {P : Nat} {A : Option Addr} {ts : List Tok} (h : n_2 w P A ts) {i : Nat} (hi : i < ts.length) : ∃ g off, A = some ⟨g, off, none⟩ ∧ g < P ∧
  w.cell? ⟨g, off + i * 4, none⟩ = some (.int .i64 (tk ts i).kind) ∧ w.cell? ⟨g, off + i * 4 + 1, none⟩ = some (str (tk ts i).text) ∧
  w.cell? ⟨g, off + i * 4 + 2, none⟩ = some (.int .i64 (tk ts i).num) ∧ w.cell? ⟨g, off + i * 4 + 3, none⟩ = some (.int .i64 (tk ts i).off) := by
 obtain ⟨g, off, hA, hP, hc⟩ := h
 rw [l_n hi]
 exact ⟨g, off, hA, hP, hc i hi⟩
def d_e (T : TypeId) (W : World) (P : Nat) (A : Option Addr) (ts : List Tok) (c b d : Nat) (r : PR) (e : Ending) (w' : World) : Prop := W.grownBy w' (some P) ∧ match r with
 | .ok es j => k_M W w' es e ∧ PSt T w' P A ts c j d 0
 | .err x j => ∃ (es : List Nd) (d' : Nat), k_M W w' es e ∧ b ≤ j ∧ es.length ≤ j - b ∧ (d ≤ d' ∧ d' ≤ j) ∧ PSt T w' P A ts c j d' x
 | .out => False
theorem a_v {w w' : World} {base e size n P : Nat} {v : Value} {xs : List Value} (h : w.ownsRow base e size v n xs) (hg : w.grownBy w' (some P)) (hP : P < base) : w'.ownsRow base e size v n xs :=
 h.kept hg (by
  rcases h.2 with ⟨rfl, _⟩ | ⟨g, cap, cur, rfl, hb, _⟩
  ·left; rfl
  ·right; simp only [Value.ownBlock]; intro e; injection e with e; omega)
theorem b_q {w : World} {base e size n c g o : Nat} {xs : List Value} (h : w.ownsRow base e size (.slice (some ⟨g, o, none⟩) n c) n xs) : o = 0 ∧ g < w.heap.size ∧ ∀ j u, xs[j]? = some u → w.cell? ((⟨g, o, none⟩ : Addr).add j) = some u := by
 rcases h.2 with ⟨hv, hn⟩ | ⟨g', cap, cur, hv, hg, hh, hnc, hcap, hsz, htk⟩
 ·cases hv
 ·injection hv with h1 h2 h3
  injection h1 with h1
  injection h1 with h1 h1b
  subst h1 h1b
  refine ⟨rfl, (Array.getElem?_eq_some_iff.1 hh).1, fun j u hu => ?_⟩
  have e : (⟨g, 0, none⟩ : Addr).add j = ⟨g, j, none⟩ := by cases j <;> simp [Addr.add]
  rw [e]
  have hj : j < n * size := by rw [← h.1]; exact (List.getElem?_eq_some_iff.1 hu).1
  have : cur[j]? = some u := by
   rw [← htk] at hu
   simpa [hj] using hu
  simp [World.cell?, hh, this]
abbrev XT : TypeId := 259
set_option maxRecDepth 100000
theorem k_w (W : World) (P : Nat) (A : Option Addr) (ts : List Tok) (c i d : Nat) (e : Int) (hS : PSt XT W P A ts c i d e) (hi : i < ts.length) (hl : ts.length ≤ 1000000) (k : Int) (x : a_3) :
  Calls prog 305 #[.pointer (some ⟨P, 0, none⟩), .int .i64 k, str x] W fun e' w' => e' = .returned (.bool (e == 0 && ((tk ts i).kind == k && (tk ts i).text == x))) ∧ Below W.heap.size W w' := by
 obtain ⟨c0, c1, c2, c3⟩ := hS.cells
 obtain ⟨g, off, rfl, hgP, t0, t1, t2, t3⟩ := hS.tok.at_ hi
 have hP := hS.lt
 refine p_Z ?_; intro hg
 clear hS
 generalize tk ts i = t at *
 obtain ⟨tk0, tk1, tk2, tk3⟩ := t
 simp only at t0 t1 t2 t3
 go_enter func305, ntmps305
 go_wp2
 go_region
 by_cases he : e = 0
 ·subst he
  by_cases h1 : tk0 = k
  ·subst h1
   go_wp2
   go_ret
   exact ⟨a_g s_, zX⟩
  ·have hb : (tk0 == k) = false := beq_eq_false_iff_ne.2 h1
   go_wp2
   exact s_d
 ·have hb : (e == 0) = false := beq_eq_false_iff_ne.2 he
  go_wp2
  exact s_d
set_option maxRecDepth 512
theorem c_N (v : Vl) (w : World) : Calls prog 333 #[v.agg] w fun e w' => k_M w w' [⟨0, v, [], 0⟩] e ∧ Below w.heap.size w w' := by
 refine v_s ?_; intro HO
 go_enter func333, ntmps333
 go_wp2
 go_ret
 refine ⟨⟨_, 1, v_, HO.out⟩, zX⟩
theorem d_T (W : World) (P : Nat) (A : Option Addr) (ts : List Tok) (c i d : Nat) (hS : PSt XT W P A ts c i d 0) (x : Int) :
  Calls prog 307 #[.pointer (some ⟨P, 0, none⟩), .int .i64 x] W fun e' w' => e' = .returned (.slice none 0 0) ∧ PSt XT w' P A ts c i d x ∧ W.grownBy w' (some P) := by
 refine q_y ?_; intro c0 c1 c2 c3 hP
 have hf := hS.free
 have HS := a_0 (hS.setErr x)
 clear hS
 go_enter func307, ntmps307
 go_wp2
 go_ret
 exact ⟨rfl, HS.out, a_d (g_ _ _) _ _⟩
theorem f_F (W : World) (P : Nat) (A : Option Addr) (ts : List Tok) (c i d : Nat) (e : Int) (hS : PSt XT W P A ts c i d e) (he : e ≠ 0) (x : Int) :
  Calls prog 307 #[.pointer (some ⟨P, 0, none⟩), .int .i64 x] W fun e' w' => e' = .returned (.slice none 0 0) ∧ Below W.heap.size W w' := by
 refine q_y ?_; intro c0 c1 c2 c3 hP
 have hb : (e == 0) = false := beq_eq_false_iff_ne.2 he
 clear hS
 go_enter func307, ntmps307
 go_wp2
 go_ret
 exact ⟨rfl, zX⟩
theorem b_c (W : World) (P : Nat) (A : Option Addr) (ts : List Tok) (c i d : Nat) (e : Int) (hS : PSt XT W P A ts c i d e) (hi : i < ts.length) (hl : ts.length ≤ 1000000) (k : Int) (x : a_3) (hb : (e == 0 && ((tk ts i).kind == k && (tk ts i).text == x)) = false) :
  Calls prog 331 #[.pointer (some ⟨P, 0, none⟩), .int .i64 k, str x] W fun e' w' => e' = .returned (.bool false) ∧ Below W.heap.size W w' := by
 have HI := a_0 (k_w W P A ts c i d e hS hi hl k x)
 clear hS
 go_enter func331, ntmps331
 go_wp2_with fail
 refine HI.out.mono ?_
 rw [hb]
 rintro e w1 ⟨rfl, hb1⟩
 clear hb
 go_wp2
 exact m_6
theorem c_7 (W : World) (P : Nat) (A : Option Addr) (ts : List Tok) (c i d : Nat) (hS : PSt XT W P A ts c i d 0) (hi : i < ts.length) (hl : ts.length ≤ 1000000) (k : Int) (x : a_3) (hb : ((tk ts i).kind == k && (tk ts i).text == x) = true) :
  Calls prog 331 #[.pointer (some ⟨P, 0, none⟩), .int .i64 k, str x] W fun e' w' => e' = .returned (.bool true) ∧ PSt XT w' P A ts c (i + 1) d 0 ∧ W.grownBy w' (some P) := by
 have HI := a_0 (k_w W P A ts c i d 0 hS hi hl k x)
 have HS := a_0 hS
 clear hS
 go_enter func331, ntmps331
 go_wp2_with fail
 refine HI.out.mono ?_
 rw [hb]
 rintro e w1 ⟨rfl, hb1⟩
 clear hb
 have hS1 := HS.out.below hb1
 obtain ⟨c0, c1, c2, c3⟩ := hS1.cells
 have hP := hS1.lt
 have hf := hS1.free
 have HS1 := a_0 (hS1.setAt (i + 1))
 clear hS1
 go_wp2
 go_ret
 exact s_V
theorem o_h {x : a_3} (h : ∀ j, j < x.length → ((x.getD j 0).toNat : Int) ≠ 46) : ¬ c_w x < x.length := by
 intro hl
 have h1 := f_T x hl
 have h2 := h _ hl
 simp [List.getD_eq_getElem?_getD, hl, h1] at h2
theorem n_H {x : a_3} {k : Nat} (hk : k < x.length) (h : ((x.getD k 0).toNat : Int) = 46) : c_w x < x.length := by
 rcases Nat.lt_or_ge (c_w x) x.length with h1 | h1
 ·exact h1
 ·obtain ⟨h2, h3⟩ := l_u x k o_
  simp [List.getD_eq_getElem?_getD, hk] at h
  exact absurd o_ h3
theorem k_R {x : a_3} (h : a_K 24 x = true) : a_p 24 x = !decide (c_w x < x.length) := by
 by_cases hd : c_w x < x.length
 ·rw [decide_eq_true hd, Bool.not_true]
  unfold a_p
  have hs := f_T x hd
  match x, hd, hs with
  | [], hd, _ => simp at hd
  | a :: r, hd, hs =>
   by_cases h0 : c_w (a :: r) = 0
   ·have : a.toNat = 46 := by simpa [h0] using hs
    have hl : c_K a = false := h_a o_
    simp [hl]
   ·have hm : (a :: r)[c_w (a :: r)] ∈ r := by
     obtain ⟨m, hm⟩ : ∃ m, c_w (a :: r) = m + 1 := ⟨c_w (a :: r) - 1, o_⟩; simp only [hm, List.getElem_cons_succ]; exact List.getElem_mem _
    have hw : b_S (a :: r)[c_w (a :: r)] = false := h_p (h_a o_) o_ o_
    have : r.all b_S = false := by
     rw [List.all_eq_false]; exact ⟨_, hm, by simp [hw]⟩
    simp [this]
 ·rw [decide_eq_false hd, Bool.not_false]
  unfold a_K at h
  rwa [if_neg hd] at h
theorem j_S {B : Nat} {a w : World} (h : Below B a w) (hB : B ≤ w.heap.size) (e : TypeId) (s : ByteArray) : Below B a (Lib.bytesWorld w e s) :=
 ⟨h.os, h.tape, h.output, by rw [Lib.bytesWorld_size]; exact Nat.le_succ_of_le h.size, fun k hk => (Lib.bytesWorld_at_old w e s k (Nat.lt_of_lt_of_le hk hB)).trans (h.block k hk)⟩
set_option maxRecDepth 100000
theorem h_W (g c : Nat) (x : a_3) (W : World) (hc : ∀ j, j < x.length → W.cell? ⟨g, j, none⟩ = some (.int .u8 ((x.getD j 0).toNat : Int))) (hg : g < W.heap.size) (hl : x.length ≤ 1000) :
  Calls prog 340 #[.slice (some ⟨g, 0, none⟩) x.length c, .int .u8 46] W fun e w' => (∃ z : Int, e = .returned (.int .i64 z) ∧ (0 ≤ z ↔ c_w x < x.length)) ∧ w' = W := by
 have HC := a_0 hc
 clear hc
 go_enter func340, ntmps340
 go_wp2
 go_loop [8] (fun i => ∃ k : Nat, i = .int .i64 k ∧ k ≤ x.length ∧ Hid (∀ j, j < k → ((x.getD j 0).toNat : Int) ≠ 46)) (fun i => x.length - (intOf i).toNat)
 case atStart => exact ⟨0, rfl, Nat.zero_le _, a_0 (fun j hj => absurd hj (Nat.not_lt_zero _))⟩
 case round =>
  obtain ⟨k, rfl, hk, HN⟩ := hrel
  by_cases hlt : k < x.length
  ·have c0 := HC.out k hlt
   by_cases he : ((x.getD k 0).toNat : Int) = 46
   ·have HY := a_0 (n_H hlt he)
    rw [he] at c0
    go_wp2
    go_ret
    exact ⟨⟨(k : Int), rfl, ⟨fun _ => HY.out, fun _ => Int.natCast_nonneg k⟩⟩, rfl⟩
   ·have HN2 := a_0 (show ∀ j, j < k + 1 → ((x.getD j 0).toNat : Int) ≠ 46 from fun j hj => by
     by_cases e : j = k
     ·subst e; exact he
     ·exact HN.out j o_)
    generalize ((x.getD k 0).toNat : Int) = y at *; have hb : (y == 46) = false := beq_eq_false_iff_ne.2 he; have hb2 : (46 == y) = false := beq_eq_false_iff_ne.2 (fun h => he h.symm)
    go_wp2
    exact ⟨⟨k + 1, t_, o_, HN2⟩, w_⟩
  ·obtain rfl : k = x.length := by omega
   have HD := a_0 (o_h HN.out)
   go_wp2
   go_ret
   exact ⟨⟨-1, rfl, ⟨fun h => by omega, fun h => absurd h HD.out⟩⟩, rfl⟩
set_option maxRecDepth 512
theorem f_A (g c : Nat) (x : a_3) (W : World) (hc : ∀ j, j < x.length → W.cell? ⟨g, j, none⟩ = some (.int .u8 ((x.getD j 0).toNat : Int))) (hg : g < W.heap.size) (hl : x.length ≤ 1000) :
  Calls prog 337 #[.slice (some ⟨g, 0, none⟩) x.length c, .int .u8 46] W fun e w' => e = .returned (.bool (decide (c_w x < x.length))) ∧ w' = W := by
 have HI := a_0 (h_W g c x W hc hg hl)
 clear hc
 go_enter func337, ntmps337
 go_wp2_with fail
 refine HI.out.mono ?_
 rintro e w1 ⟨⟨z, rfl, hz⟩, rfl⟩
 by_cases h : c_w x < x.length
 ·have h0 := hz.2 h
  have HD := a_0 (decide_eq_true h)
  clear hz h
  go_wp2
  go_ret
  exact ⟨a_g HD.out.symm, rfl⟩
 ·have h0 : z < 0 := Int.not_le.1 (fun e => h (hz.1 e))
  have HD := a_0 (decide_eq_false h)
  clear hz h
  go_wp2
  go_ret
  exact ⟨a_g ((decide_eq_false o_).trans HD.out.symm), rfl⟩
theorem q_H (w : World) (g : Nat) (hg : g = w.heap.size) (x : a_3) (c : Nat) (hl : x.length ≤ 1000) :
  Calls prog 337 #[.slice (some ⟨g, 0, none⟩) x.length c, .int .u8 46] (Lib.bytesWorld w 5 ⟨x.toArray⟩) fun e w' => e = .returned (.bool (decide (c_w x < x.length))) ∧ Below w.heap.size w w' := by
 subst hg
 refine (f_A w.heap.size c x _ (fun j hj => Lib.bytesWorld_cell w _ ⟨x.toArray⟩ j (by show j < x.toArray.size; simpa using hj)) (by rw [Lib.bytesWorld_size]; omega) hl).mono ?_
 rintro e w' ⟨he, rfl⟩
 exact ⟨he, j_S (b_ _ _) (l_ _) _ _⟩
theorem j_0 {B : Nat} {a w w' : World} (h : Below B a w) (hB : B ≤ w.heap.size) (k : Below w.heap.size w w') : Below B a w' := h.trans (k.mono hB)
set_option maxRecDepth 100000
theorem q_b (W : World) (P : Nat) (A : Option Addr) (ts : List Tok) (c i d : Nat) (e : Int) (hS : PSt XT W P A ts c i d e) (hv : a_O ts = true) (hi : i < ts.length) (hl : ts.length ≤ 1000000) :
  Calls prog 330 #[.pointer (some ⟨P, 0, none⟩)] W fun e' w' => e' = .returned (.bool (d_4 ts i)) ∧ Below W.heap.size W w' := by
 refine q_y ?_; intro c0 c1 c2 c3 hP
 have HW := a_0 (hS.wrd.words hP)
 have hnx := fun hk => b_0 hv hi hk
 have hnm := fun hk => j_t hv hi hk
 have HT := a_0 hS.tok
 clear hv hS
 by_cases k234 : (tk ts i).kind = 2 ∨ (tk ts i).kind = 3 ∨ (tk ts i).kind = 4
 ·have HB := a_0 (show d_4 ts i = true from by unfold d_4; rw [if_pos k234])
  obtain ⟨g, off, rfl, hgP, t0, t1, t2, t3⟩ := HT.out.at_ hi
  refine p_Z ?_; intro hg
  clear hnx hnm HT
  generalize tk ts i = t at *
  obtain ⟨tk0, tk1, tk2, tk3⟩ := t
  simp only at t0 t1 t2 t3 k234
  rcases k234 with rfl | rfl | rfl
  all_goals
   go_enter func330, ntmps330
   go_wp2
   go_region
   go_wp2
   exact l_b
 ·by_cases k1 : (tk ts i).kind = 1
  ·have hn1 := hnx (by rw [k1]; decide)
   have hq := hnm k1
   by_cases hw : (tk ts i).text = d_K ∨ (tk ts i).text = d_I ∨ (tk ts i).text = c_o
   ·have HB := a_0 (show d_4 ts i = true from by unfold d_4; rw [if_neg k234, if_pos k1, if_pos hw])
    obtain ⟨g, off, rfl, hgP, t0, t1, t2, t3⟩ := HT.out.at_ hi; refine p_Z ?_; intro hg; clear hnx hnm HT hq; generalize tk ts i = t at *; obtain ⟨tk0, tk1, tk2, tk3⟩ := t; simp only at t0 t1 t2 t3 k1 hw; subst k1; clear k234
    rcases hw with rfl | rfl | rfl
    all_goals
     try unfold d_K at *
     try unfold d_I at *
     try unfold c_o at *
     go_enter func330, ntmps330
     go_wp2
     go_region
     go_wp2
     exact l_b
   ·have HR0 := a_0 (fun (W' : World) (hb : Below W.heap.size W W') => b_M ⟨(tk ts i).text.toArray⟩ W' (HW.out.below hb))
    have hbs : bs ⟨(tk ts i).text.toArray⟩ = (tk ts i).text := rfl; rw [hbs] at HR0; obtain ⟨g, off, rfl, hgP, t0, t1, t2, t3⟩ := HT.out.at_ hi; obtain ⟨g', off', hgg, _, u0, u1, u2, u3⟩ := HT.out.at_ hn1; injection hgg with hgg; injection hgg with hgg1 hgg2; subst hgg1 hgg2; refine p_Z ?_; intro hg; have HB0 := a_0 (show d_4 ts i = (!e_g (tk ts i).text && (a_9 (tk ts (i + 1)) [40] || a_p 24 (tk ts i).text)) from by unfold d_4; rw [if_neg k234, if_pos k1, if_neg hw]; rfl); have HN := a_0 (k_R hq); have hln := e_7 hq; clear hnx hnm HT hq hbs; generalize d_4 ts i = ans at *; generalize tk ts i = t at *; generalize tk ts (i + 1) = u at *; obtain ⟨tk0, tk1, tk2, tk3⟩ := t; obtain ⟨uk0, uk1, uk2, uk3⟩ := u; simp only at t0 t1 t2 t3 u0 u1 u2 u3 k1 hw HB0 HN HR0 hln; subst k1; clear k234; have w1 : (tk1 == d_K) = false := beq_eq_false_iff_ne.2 (fun h => hw (.inl h)); have w2 : (tk1 == d_I) = false := beq_eq_false_iff_ne.2 (fun h => hw (.inr (.inl h))); have w3 : (tk1 == c_o) = false := beq_eq_false_iff_ne.2 (fun h => hw (.inr (.inr h))); unfold d_K at w1; unfold d_I at w2; unfold c_o at w3; clear hw
    by_cases hr : e_g tk1 = true
    ·have HB := a_0 (show ans = false from by rw [HB0.out, hr]; rfl)
     rw [hr] at HR0; clear hr HB0 HN
     go_enter func330, ntmps330
     go_wp2
     go_region
     go_wp2
     go_region
     go_wp2_with (go_at_call 89; refine (HR0.out _ zX).mono ?_; rintro e2 w9 ⟨rfl, rfl⟩)
     exact l_b
    ·have hr : e_g tk1 = false := by simpa using hr
     rw [hr] at HR0 HB0; have HB1 := a_0 (show ans = (a_9 ⟨uk0, uk1, uk2, uk3⟩ [40] || a_p 24 tk1) from HB0.out); clear hr HB0; have kc := fun (w : World) (s : ByteArray) => Lib.run_convert_string_bytes (P := prog) w 9 155 5 s underlying9 underlying155 underlying5
     by_cases h5 : uk0 = 5
     ·by_cases hp : uk1 = [40]
      ·subst h5 hp
       have HB := a_0 (show ans = true from by rw [HB1.out]; rfl); clear HB1 HN
       go_enter func330, ntmps330
       go_wp2
       go_region
       go_wp2
       go_region
       go_wp2_with (go_at_call 89; refine (HR0.out _ zX).mono ?_; rintro e2 w9 ⟨rfl, rfl⟩)
       exact l_b
      ·subst h5
       have hpb : (uk1 == [40]) = false := beq_eq_false_iff_ne.2 hp; have HB := a_0 (show ans = !decide (c_w tk1 < tk1.length) from by rw [HB1.out, HN.out]; unfold a_9; simp only [hpb]; rfl); clear HB1 HN hp
       go_enter func330, ntmps330
       go_wp2
       go_region
       go_wp2
       go_region
       go_wp2_with (first
        | (go_at_call 89; refine (HR0.out _ zX).mono ?_; rintro e2 w9 ⟨rfl, rfl⟩)
        | (go_at_call 337; refine (q_H _ _ s_ tk1 _ o_).mono ?_; rintro e2 w8 ⟨rfl, hb8⟩))
       go_ret
       exact ⟨a_g HB.out.symm, j_0 zX m_ hb8⟩
     ·have h5b : (uk0 == 5) = false := beq_eq_false_iff_ne.2 h5
      have HB := a_0 (show ans = !decide (c_w tk1 < tk1.length) from by rw [HB1.out, HN.out]; unfold a_9; simp only [h5b]; rfl); clear HB1 HN h5
      go_enter func330, ntmps330
      go_wp2
      go_region
      go_wp2
      go_region
      go_wp2_with (first
       | (go_at_call 89; refine (HR0.out _ zX).mono ?_; rintro e2 w9 ⟨rfl, rfl⟩)
       | (go_at_call 337; refine (q_H _ _ s_ tk1 _ o_).mono ?_; rintro e2 w8 ⟨rfl, hb8⟩))
      go_ret
      exact ⟨a_g HB.out.symm, j_0 zX m_ hb8⟩
  ·have k1b : ((tk ts i).kind == 1) = false := beq_eq_false_iff_ne.2 k1
   have HB0 := a_0 (show d_4 ts i = (a_9 (tk ts i) [45] || a_9 (tk ts i) [40]) from by unfold d_4; rw [if_neg k234, if_neg k1]); obtain ⟨g, off, rfl, hgP, t0, t1, t2, t3⟩ := HT.out.at_ hi; refine p_Z ?_; intro hg; clear hnx hnm HT; generalize d_4 ts i = ans at *; generalize tk ts i = t at *; obtain ⟨tk0, tk1, tk2, tk3⟩ := t; simp only at t0 t1 t2 t3 k1 k1b HB0 k234; have b2 : (tk0 == 2) = false := beq_eq_false_iff_ne.2 (fun h => k234 (.inl h)); have b3 : (tk0 == 3) = false := beq_eq_false_iff_ne.2 (fun h => k234 (.inr (.inl h))); have b4 : (tk0 == 4) = false := beq_eq_false_iff_ne.2 (fun h => k234 (.inr (.inr h)))
   by_cases h5 : tk0 = 5
   ·subst h5
    have HB1 := a_0 (show ans = (tk1 == [45] || tk1 == [40]) from by rw [HB0.out]; unfold a_9; simp); clear HB0 k234 k1 k1b b2 b3 b4
    by_cases hm : tk1 = [45]
    ·subst hm
     have HB := a_0 (show ans = true from by rw [HB1.out]; rfl)
     go_enter func330, ntmps330
     go_wp2
     go_region
     go_wp2
     exact l_b
    ·have hmb : (tk1 == [45]) = false := beq_eq_false_iff_ne.2 hm
     have HB := a_0 (show ans = (tk1 == [40]) from by rw [HB1.out, hmb]; rfl); clear HB1 hm
     go_enter func330, ntmps330
     go_wp2
     go_region
     go_wp2
     exact l_b
   ·have h5b : (tk0 == 5) = false := beq_eq_false_iff_ne.2 h5
    have HB := a_0 (show ans = false from by rw [HB0.out]; unfold a_9; simp [h5b]); clear HB0 k234 k1 h5
    go_enter func330, ntmps330
    go_wp2
    go_region
    go_wp2
    exact l_b
end
section
open Go.RowKit Go.WideMaps Go.Maps
def opT (l : Nat) (x : a_3) : Option Int :=
 if l = 0 then (if x = [111, 114] then some 15 else none)
 else if l = 1 then (if x = [97, 110, 100] then some 14 else none)
 else if l = 4 then (if x = [43, 43] then some 9 else none)
 else if l = 5 then (if x = [43] then some 4 else if x = [45] then some 5 else none)
 else if l = 6 then (if x = [42] then some 6 else if x = [47] then some 7 else if x = [37] then some 8 else none)
 else none
def lk (l : Nat) : Int := if l ≤ 1 then 1 else 5
def lvD (l : Nat) : DataW Unit :=
 if l = 0 then (DataW.map [] : DataW Unit).put (.string [111, 114]) (.lit (.int .i64 15))
 else if l = 1 then (DataW.map [] : DataW Unit).put (.string [97, 110, 100]) (.lit (.int .i64 14))
 else if l = 4 then (DataW.map [] : DataW Unit).put (.string [43, 43]) (.lit (.int .i64 9))
 else if l = 5 then ((DataW.map [] : DataW Unit).put (.string [43]) (.lit (.int .i64 4))).put (.string [45]) (.lit (.int .i64 5))
 else if l = 6 then (((DataW.map [] : DataW Unit).put (.string [42]) (.lit (.int .i64 6))).put (.string [47]) (.lit (.int .i64 7))).put (.string [37]) (.lit (.int .i64 8))
 else .map []
theorem s_R (l : Nat) (t : Tok) (hl : l = 0 ∨ l = 1 ∨ l = 4 ∨ l = 5 ∨ l = 6) : c_r l t = if t.kind = lk l then opT l t.text else none := by
 unfold c_r opT lk a_9 c_k
 rcases hl with rfl | rfl | rfl | rfl | rfl
 all_goals
  simp only [if_true, if_false]
  by_cases hk : t.kind = 1 <;> by_cases hk5 : t.kind = 5 <;> simp [hk, hk5]
theorem u_a : lvD 0 = .map [(.string [111, 114], .lit (.int .i64 15))] := by rfl
theorem u_4 : lvD 1 = .map [(.string [97, 110, 100], .lit (.int .i64 14))] := by rfl
theorem u_D : lvD 4 = .map [(.string [43, 43], .lit (.int .i64 9))] := by rfl
theorem v_b : lvD 5 = .map [(.string [43], .lit (.int .i64 4)), (.string [45], .lit (.int .i64 5))] := by rfl
theorem t_Y : lvD 6 = .map [(.string [37], .lit (.int .i64 8)), (.string [42], .lit (.int .i64 6)), (.string [47], .lit (.int .i64 7))] := by rfl
theorem d_A (a b : a_3) : (Lit.string a).sameKey (.string b) = (a == b) := by
 unfold Lit.sameKey
 first | rfl | simp | (rw [Bool.eq_iff_iff]; simp)
theorem t_g (l : Nat) (hl : l = 0 ∨ l = 1 ∨ l = 4 ∨ l = 5 ∨ l = 6) (x : a_3) : Maps.has (lvD l) (.string x) = (opT l x).isSome ∧ (lvD l).atKey (.string x) (.lit (.int .i64 0)) = .lit (.int .i64 ((opT l x).getD 0)) := by
 rcases hl with rfl | rfl | rfl | rfl | rfl
 ·rw [u_a]
  by_cases h : x = [111, 114]
  ·subst h; exact ⟨rfl, rfl⟩
  ·have hb : (([111, 114] : a_3) == x) = false := beq_eq_false_iff_ne.2 (fun e => h e.symm)
   simp [Maps.has, DataW.atKey, d_A, hb, opT, h]
 ·rw [u_4]
  by_cases h : x = [97, 110, 100]
  ·subst h; exact ⟨rfl, rfl⟩
  ·have hb : (([97, 110, 100] : a_3) == x) = false := beq_eq_false_iff_ne.2 (fun e => h e.symm)
   simp [Maps.has, DataW.atKey, d_A, hb, opT, h]
 ·rw [u_D]
  by_cases h : x = [43, 43]
  ·subst h; exact ⟨rfl, rfl⟩
  ·have hb : (([43, 43] : a_3) == x) = false := beq_eq_false_iff_ne.2 (fun e => h e.symm)
   simp [Maps.has, DataW.atKey, d_A, hb, opT, h]
 ·rw [v_b]
  by_cases h : x = [43]
  ·subst h; exact ⟨rfl, rfl⟩
  by_cases h2 : x = [45]
  ·subst h2; exact ⟨rfl, rfl⟩
  ·have hb : (([43] : a_3) == x) = false := beq_eq_false_iff_ne.2 (fun e => h e.symm)
   have hb2 : (([45] : a_3) == x) = false := beq_eq_false_iff_ne.2 (fun e => h2 e.symm)
   simp [Maps.has, DataW.atKey, d_A, hb, hb2, opT, h, h2]
 ·rw [t_Y]
  by_cases h : x = [37]
  ·subst h; exact ⟨rfl, rfl⟩
  by_cases h2 : x = [42]
  ·subst h2; exact ⟨rfl, rfl⟩
  by_cases h3 : x = [47]
  ·subst h3; exact ⟨rfl, rfl⟩
  ·have hb : (([37] : a_3) == x) = false := beq_eq_false_iff_ne.2 (fun e => h e.symm)
   have hb2 : (([42] : a_3) == x) = false := beq_eq_false_iff_ne.2 (fun e => h2 e.symm); have hb3 : (([47] : a_3) == x) = false := beq_eq_false_iff_ne.2 (fun e => h3 e.symm)
   simp [Maps.has, DataW.atKey, d_A, hb, hb2, hb3, opT, h, h2, h3]
set_option maxRecDepth 100000
theorem r_9 {w : World} {B n l : Nat} (hl : l = 0 ∨ l = 1 ∨ l = 4 ∨ l = 5 ∨ l = 6) (h : w.ownsMap prog 9 (plainElem prog 3) B n (lvD l)) (x : a_3) (hs : x.length ≤ maxLen) :
  (Instr.lookup 152 (.map (some B)) (str x) true).run prog w = .ok (.tuple #[.int .i64 ((opT l x).getD 0), .bool (opT l x).isSome]) w := by
 obtain ⟨v, ps, hrun, hv⟩ := h.look_ok a_Q underlying152 (r_s w) (plainElem_int underlying3 d_) (keyOf_string_mk (s := ⟨x.toArray⟩) underlying9 (by show x.toArray.size ≤ _; simpa using hs))
 obtain ⟨c, rfl, hc, hwc⟩ := plainElem_int_inv underlying3 hv
 have e : (⟨x.toArray⟩ : ByteArray).data.toList = x := rfl
 rw [e] at hrun hc
 obtain ⟨h1, h2⟩ := t_g l hl x
 have hc2 := congrArg Prod.fst hc
 simp only at hc2
 rw [h2] at hc2
 have hc3 : c = (opT l x).getD 0 := by injection hc2 with hc2; injection hc2 with _ hc2; exact hc2.symm
 subst hc3
 rw [h1] at hrun
 exact hrun
def c_t (w : World) (P : Nat) (A : Option Addr) (m l : Nat) : Prop := m = 0 ∨ ∃ g off, A = some ⟨g, off, none⟩ ∧ P < g ∧ g < w.heap.size ∧ ∀ q, q < m → w.cell? ⟨g, off + q * 2, none⟩ = some (.int .i64 (lk (l + q))) ∧
 ∃ B n, w.cell? ⟨g, off + q * 2 + 1, none⟩ = some (.map (some B)) ∧ P < B ∧ w.ownsMap prog 9 (plainElem prog 3) B n (lvD (l + q))
set_option maxRecDepth 512
theorem c_t.fr {w w' : World} {P : Nat} {A : Option Addr} {m l : Nat} (h : c_t w P A m l) (hg : w.grownBy w' (some P)) : c_t w' P A m l := by
 rcases h with h | ⟨g, off, rfl, hP, hs, hc⟩
 ·exact .inl h
 ·refine .inr ⟨g, off, rfl, hP, Nat.lt_of_lt_of_le hs hg.size, fun q hq => ?_⟩
  have hne : ∀ o, some (⟨g, o, none⟩ : Addr).block ≠ some P := fun o e => by injection e with e; simp at e; omega
  obtain ⟨h1, B, n, h2, hB, h3⟩ := hc q hq
  exact ⟨hg.cell h1 (hne _), B, n, hg.cell h2 (hne _), hB, h3.kept hg i_⟩
theorem c_t.tail {w : World} {P g off : Nat} {m l : Nat} (h : c_t w P (some ⟨g, off, none⟩) (m + 1) l) : c_t w P (some ⟨g, off + 2, none⟩) m (l + 1) := by
 rcases h with h | ⟨g', off', he, hP, hs, hc⟩
 ·cases h
 ·injection he with he; injection he with e1 e2; subst e1 e2
  refine .inr ⟨g, off + 2, rfl, hP, hs, fun q hq => ?_⟩
  obtain ⟨h1, B, n, h2, hB, h3⟩ := hc (q + 1) o_
  rw [show off + (q + 1) * 2 = off + 2 + q * 2 by omega, show l + (q + 1) = l + 1 + q by omega] at h1
  rw [show off + (q + 1) * 2 = off + 2 + q * 2 by omega] at h2
  rw [show l + (q + 1) = l + 1 + q by omega] at h3
  exact ⟨h1, B, n, h2, hB, h3⟩
set_option maxRecDepth 100000
theorem n_M (P : Nat) (w : World) (hP : P < w.heap.size) : Calls prog 288 #[] w fun e w' => (∃ A, e = .returned (.slice A 2 2) ∧ c_t w' P A 2 0) ∧ Below w.heap.size w w' := by
 refine t_b ?_; intro hmm hm
 obtain ⟨w1, r1, o1, g1⟩ := hm.update (t := 152) a_Q underlying152 d_ (keyOf_string_mk (s := ⟨#[111, 114]⟩) underlying9 d_) (plainElem_int (a := 15) underlying3 d_)
 have hm2 := World.ownsMap_made (H := Unit) w1 prog 9 (plainElem prog 3)
 obtain ⟨w2, r2, o2, g2⟩ := hm2.update (t := 152) a_Q underlying152 d_ (keyOf_string_mk (s := ⟨#[97, 110, 100]⟩) underlying9 d_) (plainElem_int (a := 14) underlying3 d_)
 refine v_k ?_; intro z1 z2
 refine w_D ?_; intro hb1 hb2
 have o1' : w2.ownsMap prog 9 (plainElem prog 3) w.heap.size 1 (lvD 0) := (o1.alloc (.map #[] 0)).kept g2 i_
 have HO := a_0 (And.intro o1' o2)
 have HB := a_0 hb2
 clear hm hm2 o1 o2 o1' g1 g2 hb1 hb2
 go_enter func288, ntmps288
 go_wp2
 go_ret
 refine ⟨⟨_, rfl, .inr ⟨w2.heap.size, 0, rfl, o_, s_, fun q hq => ?_⟩⟩, HB.out.alloc o_ _⟩
 match q, hq with
 | 0, _ => exact ⟨by simp [go_sem, lk], w.heap.size, 1, by simp [go_sem], hP, HO.out.1.alloc _⟩
 | 1, _ => exact ⟨by simp [go_sem, lk], w1.heap.size, 1, by simp [go_sem], o_, HO.out.2.alloc _⟩
theorem j_Q (P : Nat) (w : World) (hP : P < w.heap.size) : Calls prog 320 #[] w fun e w' => (∃ A, e = .returned (.slice A 3 3) ∧ c_t w' P A 3 4) ∧ Below w.heap.size w w' := by
 refine t_b ?_; intro hmm hm
 obtain ⟨w1, r1, o1, g1⟩ := hm.update (t := 152) a_Q underlying152 d_ (keyOf_string_mk (s := ⟨#[43, 43]⟩) underlying9 d_) (plainElem_int (a := 9) underlying3 d_)
 have hm2 := World.ownsMap_made (H := Unit) w1 prog 9 (plainElem prog 3)
 obtain ⟨w2, r2, o2, g2⟩ := hm2.update (t := 152) a_Q underlying152 d_ (keyOf_string_mk (s := ⟨#[43]⟩) underlying9 d_) (plainElem_int (a := 4) underlying3 d_)
 obtain ⟨w3, r3, o3, g3⟩ := o2.update (t := 152) a_Q underlying152 d_ (keyOf_string_mk (s := ⟨#[45]⟩) underlying9 d_) (plainElem_int (a := 5) underlying3 d_)
 have hm3 := World.ownsMap_made (H := Unit) w3 prog 9 (plainElem prog 3)
 obtain ⟨w4, r4, o4, g4⟩ := hm3.update (t := 152) a_Q underlying152 d_ (keyOf_string_mk (s := ⟨#[42]⟩) underlying9 d_) (plainElem_int (a := 6) underlying3 d_)
 obtain ⟨w5, r5, o5, g5⟩ := o4.update (t := 152) a_Q underlying152 d_ (keyOf_string_mk (s := ⟨#[47]⟩) underlying9 d_) (plainElem_int (a := 7) underlying3 d_)
 obtain ⟨w6, r6, o6, g6⟩ := o5.update (t := 152) a_Q underlying152 d_ (keyOf_string_mk (s := ⟨#[37]⟩) underlying9 d_) (plainElem_int (a := 8) underlying3 d_)
 refine v_k ?_; intro z1 z2
 have z3 : w2.heap.size ≤ w3.heap.size := g3.size
 have z4 : w3.heap.size < w4.heap.size := by have := g4.size; simp at this; omega
 have z5 : w4.heap.size ≤ w5.heap.size := g5.size
 have z6 : w5.heap.size ≤ w6.heap.size := g6.size
 refine w_D ?_; intro hb1 hb2
 have hb3 : Below w.heap.size w w3 := hb2.grown g3 o_ (fun k hk => by injection hk with hk; omega)
 have hb4 : Below w.heap.size w w4 := (hb3.alloc o_ _).grown g4 m_ (fun k hk => by injection hk with hk; omega)
 have hb5 : Below w.heap.size w w5 := hb4.grown g5 o_ (fun k hk => by injection hk with hk; omega)
 have hb6 : Below w.heap.size w w6 := hb5.grown g6 o_ (fun k hk => by injection hk with hk; omega)
 have q1 : w6.ownsMap prog 9 (plainElem prog 3) w.heap.size 1 (lvD 4) :=
  (((((o1.alloc (.map #[] 0)).kept g2 i_).kept g3 i_).alloc (.map #[] 0)).kept g4 i_).kept g5 i_ |>.kept g6 i_
 have q2 : w6.ownsMap prog 9 (plainElem prog 3) w1.heap.size 2 (lvD 5) :=
  (((o3.alloc (.map #[] 0)).kept g4 i_).kept g5 i_).kept g6 i_
 have HO := a_0 (And.intro q1 (And.intro q2 o6))
 have HB := a_0 hb6
 clear hm hm2 hm3 o1 o2 o3 o4 o5 o6 q1 q2 g1 g2 g3 g4 g5 g6 hb1 hb2 hb3 hb4 hb5 hb6
 go_enter func320, ntmps320
 go_wp2
 go_ret
 refine ⟨⟨_, rfl, .inr ⟨w6.heap.size, 0, rfl, o_, s_, fun q hq => ?_⟩⟩, HB.out.alloc o_ _⟩
 match q, hq with
 | 0, _ => exact ⟨by simp [go_sem, lk], w.heap.size, 1, by simp [go_sem], hP, HO.out.1.alloc _⟩
 | 1, _ => exact ⟨by simp [go_sem, lk], w1.heap.size, 2, by simp [go_sem], o_, HO.out.2.1.alloc _⟩
 | 2, _ => exact ⟨by simp [go_sem, lk], w3.heap.size, 3, by simp [go_sem], o_, HO.out.2.2.alloc _⟩
end
end Go.Proofs.YtmbeeefkpgfgmaaGreatDoor
