/- Parts of the proof. -/
import Derived.Test.YtmbeeefkpgfgmaaGreatDoorPp37
import Derived.ChangeAlike
import Derived.BigRegion
import Derived.Laws.EntriesVeiled
set_option linter.unusedVariables false
set_option linter.unusedSimpArgs false
set_option maxHeartbeats 8000000
namespace Go.Proofs.YtmbeeefkpgfgmaaGreatDoor
open Go.Proofs.Tryz
open Go.RowKit
private theorem calls_int2 {f : FuncId} {args : Array Value} {w : World} {a b : Int} (H : Calls prog f args w fun e w' => e = .returned (.int .i64 a) ∧ Below w.heap.size w w') (h : a = b) : Calls prog f args w fun e w' => e = .returned (.int .i64 b) ∧ Below w.heap.size w w' := by
 subst h
 exact H
set_option maxRecDepth 100000
theorem c_H (op : Int) (fB cB nB eB : Bool) (hk : (op = 2 ∧ fB = false ∧ cB = false ∧ nB = false ∧ eB = true) ∨ ((op = 4 ∨ op = 5) ∧ fB = false ∧ cB = true ∧ nB = false ∧ eB = false) ∨ (op = 11 ∧ fB = true ∧ cB = true ∧ nB = false ∧ eB = false) ∨ (op = 12 ∧ fB = true ∧ cB = true ∧ nB = true ∧ eB = false)) (src : a_3) (nA : Option Addr) (ln nC : Nat) (oA : Option Addr) (lo oC : Nat) (iA : Option Addr) (iC : Nat) (cA : Option Addr) (lc cC : Nat) (its : List It) (m g : Nat) (lb : Array Value) (own : It → Int) (w : World)
  (hW : a_X w 2 a_J) (hI : f_r w iA its) (hl : its.length ≤ 1000000) (hci : its.length ≤ iC) (hm : m ≤ 1) (eg : ∀ args W, (callFunc g args).run prog W = .ok (.enter g args) W)
  (hp : ∀ k (h : k < its.length) (E : Option Addr) (ec : Nat) W, Below w.heap.size w W → c_L W E its[k].expr → Calls prog g (#[itV its[k] E ec] ++ lb) W fun e w' => e = .returned (.int .i64 (own its[k])) ∧ Below W.heap.size W w') :
  Calls prog 46 #[.agg #[.int .i64 op, str src, .slice nA ln nC, .slice oA lo oC, .slice iA its.length iC, .slice cA lc cC], .int .i64 m, .func (.func g) #[] lb] w fun e w' => e = .returned (.int .i64 (a_F its m fB cB nB eB own)) ∧ Below w.heap.size w w' := by
 have n : (∃ k2 : Hid (op = 2 ∧ fB = false ∧ cB = false ∧ nB = false ∧ eB = true), True) ∨ (∃ kj : Hid ((op = 4 ∨ op = 5) ∧ fB = false ∧ cB = true ∧ nB = false ∧ eB = false), True) ∨ (∃ kg : Hid (op = 11 ∧ fB = true ∧ cB = true ∧ nB = false ∧ eB = false), True) ∨ (∃ kw : Hid (op = 12 ∧ fB = true ∧ cB = true ∧ nB = true ∧ eB = false), True) := by
  rcases hk with h | h | h | h
  ·exact .inl ⟨a_0 h, trivial⟩
  ·exact .inr (.inl ⟨a_0 h, trivial⟩)
  ·exact .inr (.inr (.inl ⟨a_0 h, trivial⟩))
  ·exact .inr (.inr (.inr ⟨a_0 h, trivial⟩))
 clear hk
 rcases n with ⟨k2, _⟩ | ⟨kj, _⟩ | ⟨kg, _⟩ | ⟨kw, _⟩
 all_goals first
  | (have := k2; (have n2 : (op == 2) = true := (by rw [k2.out.1]; rfl)); (have n2' : (op != 2) = false := (by rw [k2.out.1]; rfl)); (have n11 : (op == 11) = false := (by rw [k2.out.1]; rfl)); (have n11' : (op != 11) = true := (by rw [k2.out.1]; rfl)); (have n12 : (op == 12) = false := (by rw [k2.out.1]; rfl)); (have n12' : (op != 12) = true := (by rw [k2.out.1]; rfl)))
  | (have := kj; (have n2 : (op == 2) = false := (by rcases kj.out.1 with h | h <;> rw [h] <;> rfl)); (have n2' : (op != 2) = true := (by rcases kj.out.1 with h | h <;> rw [h] <;> rfl)); (have n11 : (op == 11) = false := (by rcases kj.out.1 with h | h <;> rw [h] <;> rfl)); (have n11' : (op != 11) = true := (by rcases kj.out.1 with h | h <;> rw [h] <;> rfl)); (have n12 : (op == 12) = false := (by rcases kj.out.1 with h | h <;> rw [h] <;> rfl)); (have n12' : (op != 12) = true := (by rcases kj.out.1 with h | h <;> rw [h] <;> rfl)))
  | (have := kg; (have n2 : (op == 2) = false := (by rw [kg.out.1]; rfl)); (have n2' : (op != 2) = true := (by rw [kg.out.1]; rfl)); (have n11 : (op == 11) = true := (by rw [kg.out.1]; rfl)); (have n11' : (op != 11) = false := (by rw [kg.out.1]; rfl)); (have n12 : (op == 12) = false := (by rw [kg.out.1]; rfl)); (have n12' : (op != 12) = true := (by rw [kg.out.1]; rfl)))
  | (have := kw; (have n2 : (op == 2) = false := (by rw [kw.out.1]; rfl)); (have n2' : (op != 2) = true := (by rw [kw.out.1]; rfl)); (have n11 : (op == 11) = false := (by rw [kw.out.1]; rfl)); (have n11' : (op != 11) = true := (by rw [kw.out.1]; rfl)); (have n12 : (op == 12) = true := (by rw [kw.out.1]; rfl)); (have n12' : (op != 12) = false := (by rw [kw.out.1]; rfl)))
 all_goals
  have HW := a_0 hW
  have HI := a_0 hI
  have HP := a_0 hp
  clear hW hI hp
  by_cases h1 : its.length < m
  ·have HE := a_0 (show a_F its m fB cB nB eB own = 2 from by unfold a_F; rw [if_pos (.inl h1)])
   go_enter func46, ntmps46
   go_wp2
   all_goals first | (exfalso; omega) | skip
   exact t_T
  by_cases h2 : 12 < its.length
  ·have HE := a_0 (show a_F its m fB cB nB eB own = 2 from by unfold a_F; rw [if_pos (.inr h2)])
   go_enter func46, ntmps46
   go_wp2
   all_goals first | (exfalso; omega) | skip
   exact t_T
  obtain ⟨G, hG⟩ : ∃ G : Nat → Int, G = fun i => if d_v its i fB cB nB eB = 0 then own (its.getD i it0) else d_v its i fB cB nB eB := ⟨_, rfl⟩
  have HE := a_0 (show a_F its m fB cB nB eB own = b_p G its.length from by unfold a_F; rw [if_neg o_, hG])
  have HG := a_0 (fun k (h : k < its.length) => show G k = if d_v its k fB cB nB eB = 0 then own its[k] else d_v its k fB cB nB eB from by
   rw [hG]; have e : its.getD k it0 = its[k] := by rw [List.getD_eq_getElem?_getD, List.getElem?_eq_getElem h]; rfl
   simp only [e])
  clear hG
  generalize a_F its m fB cB nB eB own = r at *
  have f0 : ((w.alloc (.cells #[.int .i64 op, str src, .slice nA ln nC, .slice oA lo oC, .slice iA its.length iC, .slice cA lc cC] 27)).alloc (.cells #[.func (.func g) #[] lb] 79)).cell? ⟨w.heap.size, 0, none⟩ = some (.int .i64 op) := by simp [go_sem]
  have f4 : ((w.alloc (.cells #[.int .i64 op, str src, .slice nA ln nC, .slice oA lo oC, .slice iA its.length iC, .slice cA lc cC] 27)).alloc (.cells #[.func (.func g) #[] lb] 79)).cell? ⟨w.heap.size, 4, none⟩ = some (.slice iA its.length iC) := by simp [go_sem]
  have ff : ((w.alloc (.cells #[.int .i64 op, str src, .slice nA ln nC, .slice oA lo oC, .slice iA its.length iC, .slice cA lc cC] 27)).alloc (.cells #[.func (.func g) #[] lb] 79)).cell? ⟨w.heap.size + 1, 0, none⟩ = some (.func (.func g) #[] lb) := by simp [go_sem]
  have hb2 : Below w.heap.size w ((w.alloc (.cells #[.int .i64 op, str src, .slice nA ln nC, .slice oA lo oC, .slice iA its.length iC, .slice cA lc cC] 27)).alloc (.cells #[.func (.func g) #[] lb] 79)) := zX
  have hz2 : ((w.alloc (.cells #[.int .i64 op, str src, .slice nA ln nC, .slice oA lo oC, .slice iA its.length iC, .slice cA lc cC] 27)).alloc (.cells #[.func (.func g) #[] lb] 79)).heap.size = w.heap.size + 1 + 1 := by simp
  go_enter func46, ntmps46
  go_wp2
  all_goals first | (exfalso; omega) | skip
  generalize (w.alloc (.cells #[.int .i64 op, str src, .slice nA ln nC, .slice oA lo oC, .slice iA its.length iC, .slice cA lc cC] 27)).alloc (.cells #[.func (.func g) #[] lb] 79) = w2 at *
  go_loopw [24] (fun i wr => ∃ k : Nat, k ≤ its.length ∧ i = .int .i64 k ∧ Hid (∀ j, j < k → G j = 0) ∧ Below w2.heap.size w2 wr) (fun i _ => its.length - (intOf i).toNat)
  case atStart => exact ⟨0, o_, rfl, fun j hj => absurd hj (Nat.not_lt_zero _), b_ _ _⟩
  case round =>
   obtain ⟨k, hk, rfl, HZ, hbel⟩ := hrel
   by_cases hlt : k < its.length
   ·have hbw : Below w.heap.size w wr := a_n hbel hb2
    have hszr := hbel.size; have g0 := (hbel.cell (p := ⟨w.heap.size, 0, none⟩) (by show w.heap.size < _; omega)).trans f0; have g4 := (hbel.cell (p := ⟨w.heap.size, 4, none⟩) (by show w.heap.size < _; omega)).trans f4; have gf := (hbel.cell (p := ⟨w.heap.size + 1, 0, none⟩) (by show w.heap.size + 1 < _; omega)).trans ff
    rcases HI.out with e | ⟨g1, o1, rfl, hg1, hc1⟩
    ·exact absurd hlt e_
    obtain ⟨t0, t1, t2, t3, E, ec, t4, hE⟩ := (hc1 k hlt).below hg1 hbw; have HIts := a_0 (fun W (h : Below w.heap.size w W) i (hi : i < its.length) => (hc1 i hi).below hg1 h); have HNd := a_0 hE; have HF := a_0 (fun x (e : G k = x) (hx : x ≠ 0) => (HE.out.trans (c_b HZ.out (by rw [e]; exact hx) hlt)).trans e); have HN := a_0 (fun (e : G k = 0) => e_N HZ.out e); have HGk := a_0 (HG.out k hlt); have HPk := a_0 (fun W (h : Below w.heap.size w W) (hn : c_L W E its[k].expr) => HP.out k hlt E ec W h hn); have HS7 := a_0 (fun a b c d hs => q_3 (its := its) hlt fB cB nB eB own a b c d hs); have hki : k ≤ iC := by omega
    have hkl : k ≤ its.length := by omega
    clear hc1 hE; generalize hx : its[k] = x at *; have Hx := a_0 hx; clear hx; obtain ⟨xn, xf, xc, xm, xe⟩ := x; simp only at t0 t1 t2 t3 t4 HNd HPk HS7; obtain ⟨le, hle⟩ : ∃ le, le = xe.length := ⟨_, rfl⟩; have HLe := a_0 hle; rw [← hle] at t4; clear hle; have hag : Below wr.heap.size wr (wr.alloc (.cells #[str xn, .int .i64 xf, str xc, .int .i64 xm, .slice E le ec] 61)) := zX; have hzg : wr.heap.size < (wr.alloc (.cells #[str xn, .int .i64 xf, str xc, .int .i64 xm, .slice E le ec] 61)).heap.size := by simp
    have v0 := (hag.cell (p := ⟨w.heap.size, 0, none⟩) (by show w.heap.size < _; omega)).trans g0; have v4 := (hag.cell (p := ⟨w.heap.size, 4, none⟩) (by show w.heap.size < _; omega)).trans g4; have vf := (hag.cell (p := ⟨w.heap.size + 1, 0, none⟩) (by show w.heap.size + 1 < _; omega)).trans gf; have x0 : (wr.alloc (.cells #[str xn, .int .i64 xf, str xc, .int .i64 xm, .slice E le ec] 61)).cell? ⟨wr.heap.size, 0, none⟩ = some (str xn) := by simp [go_sem]
    have x1 : (wr.alloc (.cells #[str xn, .int .i64 xf, str xc, .int .i64 xm, .slice E le ec] 61)).cell? ⟨wr.heap.size, 1, none⟩ = some (.int .i64 xf) := by simp [go_sem]
    have x2 : (wr.alloc (.cells #[str xn, .int .i64 xf, str xc, .int .i64 xm, .slice E le ec] 61)).cell? ⟨wr.heap.size, 2, none⟩ = some (str xc) := by simp [go_sem]
    have x3 : (wr.alloc (.cells #[str xn, .int .i64 xf, str xc, .int .i64 xm, .slice E le ec] 61)).cell? ⟨wr.heap.size, 3, none⟩ = some (.int .i64 xm) := by simp [go_sem]
    have x4 : (wr.alloc (.cells #[str xn, .int .i64 xf, str xc, .int .i64 xm, .slice E le ec] 61)).cell? ⟨wr.heap.size, 4, none⟩ = some (.slice E le ec) := by simp [go_sem]
    go_wp2
    have hbg : Below w.heap.size w (wr.alloc (.cells #[str xn, .int .i64 xf, str xc, .int .i64 xm, .slice E le ec] 61)) := a_n hag hbw; have hbl2 : Below w2.heap.size w2 (wr.alloc (.cells #[str xn, .int .i64 xf, str xc, .int .i64 xm, .slice E le ec] 61)) := a_n hag hbel; generalize wr.alloc (.cells #[str xn, .int .i64 xf, str xc, .int .i64 xm, .slice E le ec] 61) = w3 at *; have hagK := hag; clear g0 g4 gf t0 t1 t2 t3 t4 f0 f4 ff hag hbw hbel; have HCF := a_0 (fun W (hb : Below w3.heap.size w3 W) => show Calls prog 94 #[.slice (some ⟨g1, o1, none⟩) k iC, .func (.func 95) #[] #[a_N wr.heap.size]] W (fun e w' => e = .returned (.bool (decide (xn ∈ (its.take k).map It.name))) ∧ Below W.heap.size W w') from o_i g1 o1 iC k wr.heap.size its xn W (Nat.lt_of_lt_of_le hg1 (a_n hb hbg).size) hkl hl (fun i hi => HIts.out W (a_n hb hbg) i hi) (Nat.lt_of_lt_of_le (show wr.heap.size < w3.heap.size by omega) hb.size) ((hb.cell (p := ⟨wr.heap.size, 0, none⟩) y_).trans x0)); have HLx := a_0 (show w3.cell? ⟨wr.heap.size, 4, none⟩ = some (.slice E xe.length ec) from by rw [← HLe.out]; exact x4); have HTh5 := a_0 (fun V (h : Below w3.heap.size w3 V) => j_V wr.heap.size xn V (HW.out.below (a_n h hbg)) (Nat.lt_of_lt_of_le (show wr.heap.size < w3.heap.size by omega) h.size) ((h.cell (p := ⟨wr.heap.size, 0, none⟩) y_).trans x0))
    have HTh7 := a_0 (fun V (h : Below w3.heap.size w3 V) => k_I (w.heap.size + 1) wr.heap.size g lb ⟨xn, xf, xc, xm, xe⟩ E ec (own ⟨xn, xf, xc, xm, xe⟩) V (Nat.lt_of_lt_of_le (show w.heap.size + 1 < w3.heap.size by omega) h.size) (Nat.lt_of_lt_of_le (show wr.heap.size < w3.heap.size by omega) h.size)
     ((h.cell (p := ⟨w.heap.size + 1, 0, none⟩) (by show w.heap.size + 1 < _; omega)).trans vf) ((h.cell (p := ⟨wr.heap.size, 0, none⟩) y_).trans x0) ((h.cell (p := ⟨wr.heap.size, 1, none⟩) y_).trans x1) ((h.cell (p := ⟨wr.heap.size, 2, none⟩) y_).trans x2) ((h.cell (p := ⟨wr.heap.size, 3, none⟩) y_).trans x3) ((h.cell (p := ⟨wr.heap.size, 4, none⟩) y_).trans HLx.out)
     eg (fun W hW => HPk.out W (a_n (a_n hW h) hbg) (HNd.out.below (a_n (a_n hW h) (show Below wr.heap.size wr w3 from hagK)))))
    have HS := a_0 (fun w' (hb : Below w3.heap.size w3 w') => show w'.cell? ⟨w.heap.size, 0, none⟩ = some (.int .i64 op) ∧ w'.cell? ⟨w.heap.size, 4, none⟩ = some (.slice (some ⟨g1, o1, none⟩) its.length iC) ∧ w'.cell? ⟨wr.heap.size, 0, none⟩ = some (str xn) ∧ w'.cell? ⟨wr.heap.size, 1, none⟩ = some (.int .i64 xf) ∧ w'.cell? ⟨wr.heap.size, 2, none⟩ = some (str xc) ∧ w'.cell? ⟨wr.heap.size, 3, none⟩ = some (.int .i64 xm) ∧ w'.cell? ⟨wr.heap.size, 4, none⟩ = some (.slice E le ec) ∧ Below w3.heap.size w3 w' from
     ⟨(hb.cell (p := ⟨w.heap.size, 0, none⟩) (by show w.heap.size < _; omega)).trans v0, (hb.cell (p := ⟨w.heap.size, 4, none⟩) (by show w.heap.size < _; omega)).trans v4, (hb.cell (p := ⟨wr.heap.size, 0, none⟩) y_).trans x0, (hb.cell (p := ⟨wr.heap.size, 1, none⟩) y_).trans x1, (hb.cell (p := ⟨wr.heap.size, 2, none⟩) y_).trans x2, (hb.cell (p := ⟨wr.heap.size, 3, none⟩) y_).trans x3, (hb.cell (p := ⟨wr.heap.size, 4, none⟩) y_).trans x4, hb⟩)
    refine wp_region_held_drew (S := (fun w' => w'.cell? ⟨w.heap.size, 0, none⟩ = some (.int .i64 op) ∧ w'.cell? ⟨w.heap.size, 4, none⟩ = some (.slice (some ⟨g1, o1, none⟩) its.length iC) ∧ w'.cell? ⟨wr.heap.size, 0, none⟩ = some (str xn) ∧ w'.cell? ⟨wr.heap.size, 1, none⟩ = some (.int .i64 xf) ∧ w'.cell? ⟨wr.heap.size, 2, none⟩ = some (str xc) ∧ w'.cell? ⟨wr.heap.size, 3, none⟩ = some (.int .i64 xm) ∧ w'.cell? ⟨wr.heap.size, 4, none⟩ = some (.slice E le ec) ∧ Below w3.heap.size w3 w')) k_ (by (try dsimp only); exact HS.out _ (Below.drew (b_ _ _))) (fun hHeld => ?_); refine zT 0 ?_; refine zT 1 ?_; refine zT 2 ?_; refine zT 3 ?_
    first | (have := k2; refine zK 4 ?_; refine zK 5 ?_; refine zK 6 ?_; refine zK 7 ?_) | (refine zT 4 ?_; refine zT 5 ?_; refine zT 6 ?_; refine zT 7 ?_)
    refine zT 8 ?_; refine zT 10 ?_; refine zT 11 ?_; refine zT 12 ?_; refine zT 19 ?_; refine zT 20 ?_; refine zT 21 ?_; refine zT 33 ?_; refine zT 34 ?_; refine zT 35 ?_; refine zT 42 ?_; refine zT 43 ?_; refine zT 44 ?_; refine zT 45 ?_; refine zT 46 ?_; refine zT 47 ?_; refine zT 50 ?_; refine zR 9 (fun K hK => ?_)
    go_simp
    go_wp2_with (go_at_call 44; refine (c_P _ _ _).mono ?_; rintro e q1 ⟨⟨lb1, v1, rfl, hv1, ht1⟩, hb1⟩; have hq1 := a_n hb1 (show Below w3.heap.size w3 _ from Below.drew (b_ _ _)); have HT1 := a_0 ht1; have HV1 := a_0 hv1; clear ht1 hv1)
    refine zB hK (HS.out _ hq1) (fun hHeld => ?_); clear hK K; refine zT 13 ?_
    first | (have := k2; refine zT 14 ?_; refine zT 15 ?_; refine zT 16 ?_) | (refine zK 14 ?_; refine zK 15 ?_; refine zK 16 ?_)
    refine zT 17 ?_; refine zR 18 (fun K hK => ?_)
    go_simp
    go_wp2_with (go_at_call 44; refine (c_P _ _ _).mono ?_; rintro e q2 ⟨⟨lb2, v2, rfl, hv2, ht2⟩, hb2⟩; have hq2 := a_n hb2 (show Below w3.heap.size w3 _ from hq1); have HT2 := a_0 ht2; have HV2 := a_0 hv2; clear ht2 hv2)
    refine zB hK (HS.out _ hq2) (fun hHeld => ?_); clear hK K; refine zT 22 ?_
    first | (have := kg; refine zK 23 ?_; refine zK 24 ?_; refine zK 25 ?_) | (refine zT 23 ?_; refine zT 24 ?_; refine zT 25 ?_)
    refine zT 26 ?_; refine zT 27 ?_
    first | (have := kg; refine zK 28 ?_; refine zK 29 ?_; refine zK 30 ?_) | (have := kw; refine zK 28 ?_; refine zK 29 ?_; refine zK 30 ?_) | (refine zT 28 ?_; refine zT 29 ?_; refine zT 30 ?_)
    refine zT 31 ?_; refine zR 32 (fun K hK => ?_)
    go_simp
    go_wp2_with (go_at_call 44; refine (c_P _ _ _).mono ?_; rintro e q3 ⟨⟨lb3, v3, rfl, hv3, ht3⟩, hb3⟩; have hq3 := a_n hb3 (show Below w3.heap.size w3 _ from hq2); have HT3 := a_0 ht3; have HV3 := a_0 hv3; clear ht3 hv3)
    refine zB hK (HS.out _ hq3) (fun hHeld => ?_); clear hK K; refine zT 36 ?_
    first | (have := kw; refine zK 37 ?_; refine zK 38 ?_; refine zK 39 ?_) | (refine zT 37 ?_; refine zT 38 ?_; refine zT 39 ?_)
    refine zT 40 ?_; refine zR 41 (fun K hK => ?_)
    go_simp
    go_wp2_with (go_at_call 44; refine (c_P _ _ _).mono ?_; rintro e q4 ⟨⟨lb4, v4, rfl, hv4, ht4⟩, hb4⟩; have hq4 := a_n hb4 (show Below w3.heap.size w3 _ from hq3); have HT4 := a_0 ht4; have HV4 := a_0 hv4; clear ht4 hv4)
    refine zB hK (HS.out _ hq4) (fun hHeld => ?_); clear hK K; refine zR 48 (fun K hK => ?_)
    go_simp
    go_wp2_with (go_at_call 94; refine (HCF.out _ hq4).mono ?_; rintro e q5 ⟨rfl, hb5⟩; have hq5 := a_n hb5 hq4)
    refine zB hK (HS.out _ hq5) (fun hHeld => ?_); clear hK K; refine zR 49 (fun K hK => ?_)
    go_simp
    go_wp2_with (go_at_call 44; refine (c_P _ _ _).mono ?_; rintro e q6 ⟨⟨lb6, v6, rfl, hv6, ht6⟩, hb6⟩; have hq6 := a_n hb6 (show Below w3.heap.size w3 _ from hq5); have HT6 := a_0 ht6; have HV6 := a_0 hv6; clear ht6 hv6)
    refine zB hK (HS.out _ hq6) (fun hHeld => ?_); clear hK K; refine zR 51 (fun K hK => ?_)
    go_simp
    refine zB hK (HS.out _ (hq6.alloc hq6.size _)) (fun hHeld => ?_); clear hK K
    first
     | (have hsh : ((false) || (!List.isEmpty xc) || (xf != 0) || (xm != 0)) = e_L ⟨xn, xf, xc, xm, xe⟩ fB cB nB eB := (by obtain ⟨_, rfl, rfl, rfl, rfl⟩ := k2.out; have e1 : (xc != []) = !List.isEmpty xc := (by cases xc <;> rfl); have e2 : (xe.length != 0) = decide (0 < le) := (by rw [HLe.out]; cases xe <;> simp); show _ = ((!false && xf != 0) || (!false && xc != []) || (!false && xm != 0) || (!true && xe.length != 0)); rw [e1, e2]; generalize List.isEmpty xc = b1; generalize (xf != 0) = b2; generalize (xm != 0) = b3; generalize decide (0 < le) = b4; cases b1 <;> cases b2 <;> cases b3 <;> cases b4 <;> rfl))
     | (have hsh : ((decide (0 < le)) || (false) || (xf != 0) || (xm != 0)) = e_L ⟨xn, xf, xc, xm, xe⟩ fB cB nB eB := (by obtain ⟨_, rfl, rfl, rfl, rfl⟩ := kj.out; have e1 : (xc != []) = !List.isEmpty xc := (by cases xc <;> rfl); have e2 : (xe.length != 0) = decide (0 < le) := (by rw [HLe.out]; cases xe <;> simp); show _ = ((!false && xf != 0) || (!true && xc != []) || (!false && xm != 0) || (!false && xe.length != 0)); rw [e1, e2]; generalize List.isEmpty xc = b1; generalize (xf != 0) = b2; generalize (xm != 0) = b3; generalize decide (0 < le) = b4; cases b1 <;> cases b2 <;> cases b3 <;> cases b4 <;> rfl))
     | (have hsh : ((decide (0 < le)) || (false) || (false) || (xm != 0)) = e_L ⟨xn, xf, xc, xm, xe⟩ fB cB nB eB := (by obtain ⟨_, rfl, rfl, rfl, rfl⟩ := kg.out; have e1 : (xc != []) = !List.isEmpty xc := (by cases xc <;> rfl); have e2 : (xe.length != 0) = decide (0 < le) := (by rw [HLe.out]; cases xe <;> simp); show _ = ((!true && xf != 0) || (!true && xc != []) || (!false && xm != 0) || (!false && xe.length != 0)); rw [e1, e2]; generalize List.isEmpty xc = b1; generalize (xf != 0) = b2; generalize (xm != 0) = b3; generalize decide (0 < le) = b4; cases b1 <;> cases b2 <;> cases b3 <;> cases b4 <;> rfl))
     | (have hsh : ((decide (0 < le)) || (false) || (false) || (false)) = e_L ⟨xn, xf, xc, xm, xe⟩ fB cB nB eB := (by obtain ⟨_, rfl, rfl, rfl, rfl⟩ := kw.out; have e1 : (xc != []) = !List.isEmpty xc := (by cases xc <;> rfl); have e2 : (xe.length != 0) = decide (0 < le) := (by rw [HLe.out]; cases xe <;> simp); show _ = ((!true && xf != 0) || (!true && xc != []) || (!true && xm != 0) || (!false && xe.length != 0)); rw [e1, e2]; generalize List.isEmpty xc = b1; generalize (xf != 0) = b2; generalize (xm != 0) = b3; generalize decide (0 < le) = b4; cases b1 <;> cases b2 <;> cases b3 <;> cases b4 <;> rfl))
    have hfin : b_p (fun j => (([⟨90, lb1, v1⟩, ⟨90, lb2, v2⟩, ⟨90, lb3, v3⟩, ⟨90, lb4, v4⟩, ⟨93, #[a_N wr.heap.size], c_f xn⟩, ⟨90, lb6, v6⟩, ⟨96, #[a_N (w.heap.size + 1), a_N wr.heap.size], own ⟨xn, xf, xc, xm, xe⟩⟩] : List Thk).map Thk.v).getD j 0) 7 = G k := by
     rw [HGk.out, ← HS7.out _ _ _ _ hsh]; have e1 := HV1.out; have e2 := HV2.out; have e3 := HV3.out; have e4 := HV4.out; have e6 := HV6.out
     try rw [← List.map_take] at e6
     show b_p (fun j => [v1, v2, v3, v4, c_f xn, v6, own ⟨xn, xf, xc, xm, xe⟩].getD j 0) 7 = _
     first | rw [e1, e2, e3, e4, e6] | (simp only [e1, e2, e3, e4, e6])
    have B6 : Below q6.heap.size q6 (q6.alloc (.cells #[.func (.func 90) #[] lb1, .func (.func 90) #[] lb2, .func (.func 90) #[] lb3, .func (.func 90) #[] lb4, .func (.func 93) #[] #[a_N wr.heap.size], .func (.func 90) #[] lb6, .func (.func 96) #[] #[a_N (w.heap.size + 1), a_N wr.heap.size]] 73)) := (b_ _ _).alloc (l_ _) _; have B5 := a_n B6 hb6; have B4 := a_n B5 hb5; have B3 := a_n B4 hb4; have B2 := a_n B3 hb3; have B1 := a_n B2 hb2; have B0 := a_n B6 hq6; have T1 := a_0 (HT1.out.below B1); have T2 := a_0 (HT2.out.below B2); have T3 := a_0 (HT3.out.below B3); have T4 := a_0 (HT4.out.below B4); have T5 := a_0 (HTh5.out _ B0); have T6 := a_0 (HT6.out.below B6); have T7 := a_0 (HTh7.out _ B0)
    have HFst := a_0 (calls_int2 (c_x q6.heap.size 7 [⟨90, lb1, v1⟩, ⟨90, lb2, v2⟩, ⟨90, lb3, v3⟩, ⟨90, lb4, v4⟩, ⟨93, #[a_N wr.heap.size], c_f xn⟩, ⟨90, lb6, v6⟩, ⟨96, #[a_N (w.heap.size + 1), a_N wr.heap.size], own ⟨xn, xf, xc, xm, xe⟩⟩] (q6.alloc (.cells #[.func (.func 90) #[] lb1, .func (.func 90) #[] lb2, .func (.func 90) #[] lb3, .func (.func 90) #[] lb4, .func (.func 93) #[] #[a_N wr.heap.size], .func (.func 90) #[] lb6, .func (.func 96) #[] #[a_N (w.heap.size + 1), a_N wr.heap.size]] 73)) s_ (show (7 : Nat) ≤ 10 from by decide) (fun j h => by
      have h9 : j < 7 := h
      match j, h9 with
      | 0, _ => simp [go_sem]
      | 1, _ => simp [go_sem]
      | 2, _ => simp [go_sem]
      | 3, _ => simp [go_sem]
      | 4, _ => simp [go_sem]
      | 5, _ => simp [go_sem]
      | 6, _ => simp [go_sem]) (fun j h => by
      have h9 : j < 7 := h
      match j, h9 with
      | 0, _ => exact T1.out
      | 1, _ => exact T2.out
      | 2, _ => exact T3.out
      | 3, _ => exact T4.out
      | 4, _ => exact T5.out
      | 5, _ => exact T6.out
      | 6, _ => exact T7.out)) hfin)
    refine zR 52 (fun K hK => ?_)
    go_simp
    go_wp2_with (go_at_call 40; go_loud (refine (HFst.out).mono ?_; rintro e q8 ⟨rfl, hb8⟩; have hq8 := a_n hb8 B0))
    refine zB hK (HS.out _ hq8) (fun hHeld => ?_); clear hK K; refine zR 53 (fun K hK => ?_)
    go_simp
    refine zB hK (by (try dsimp only); assumption) (fun hHeld => ?_); clear hK K; refine wpAnyH_done k_ ?_ _; clear hfin hsh; generalize G k = gk at *
    by_cases hv : gk = 0
    ·subst hv
     have HR := a_0 (HN.out rfl)
     go_wp2
     exact ⟨⟨k + 1, o_, t_, HR, a_n hq8 hbl2⟩, w_⟩
    ·have hvb : (gk != 0) = true := by simpa using hv
     have HR := a_0 (HF.out gk rfl hv)
     go_wp2
     go_ret
     exact ⟨a_k HR.out.symm, a_n hq8 hbg⟩
   ·obtain rfl : k = its.length := by omega
    refine r_W ?_; intro HR
    go_wp2
    go_ret
    exact ⟨a_k HR.out.symm, a_n hbel hb2⟩
set_option maxRecDepth 512
def b_E (w : World) (b : Nat) (s : Stp) (a : Adr) : Prop := b < w.heap.size ∧ w.cell? ⟨b, 0, none⟩ = some (.int .i64 s.op) ∧ w.cell? ⟨b, 1, none⟩ = some (str s.src) ∧ w.cell? ⟨b, 2, none⟩ = some (.slice a.nA s.names.length a.nC) ∧ w.cell? ⟨b, 3, none⟩ = some (.slice a.oA s.others.length a.oC) ∧ w.cell? ⟨b, 4, none⟩ = some (.slice a.iA s.items.length a.iC) ∧ w.cell? ⟨b, 5, none⟩ = some (.slice a.cA s.cond.length a.cC)
theorem b_E.below {w w' : World} {b : Nat} {s : Stp} {a : Adr} (h : b_E w b s a) (hb : Below w.heap.size w w') : b_E w' b s a := by
 obtain ⟨h0, c0, c1, c2, c3, c4, c5⟩ := h
 exact ⟨Nat.lt_of_lt_of_le h0 hb.size, (hb.cell (p := ⟨b, _, none⟩) h0).trans c0, (hb.cell (p := ⟨b, _, none⟩) h0).trans c1, (hb.cell (p := ⟨b, _, none⟩) h0).trans c2, (hb.cell (p := ⟨b, _, none⟩) h0).trans c3, (hb.cell (p := ⟨b, _, none⟩) h0).trans c4, (hb.cell (p := ⟨b, _, none⟩) h0).trans c5⟩
theorem h_I (b : Nat) (s : Stp) (a : Adr) (w : World) (hW : a_X w 2 a_J) (hB : b_E w b s a) (ho : s.ok) : e_B w 37 #[a_N b] (d_3 s.src) := by
 refine ⟨fun args W => by kernel_rfl, fun W hW2 => ?_⟩
 obtain ⟨hb, c0, c1, c2, c3, c4, c5⟩ := hB.below hW2
 have HM := a_0 (show Calls prog 38 #[str s.src, .bool true] W (fun e w' => e = .returned (.int .i64 (d_3 s.src)) ∧ Below W.heap.size W w') from e_h s.src true W (hW.below hW2) ho.src)
 clear hW hB ho hW2
 generalize d_3 s.src = v at *
 go_enter func37, ntmps37
 go_wp2_with (go_at_call 38; refine (HM.out).mono ?_; rintro e w1 ⟨rfl, hb1⟩)
 exact m_6
theorem k_r (b : Nat) (s : Stp) (a : Adr) (w : World) (hW : a_X w 2 a_J) (hB : b_E w b s a) (hA : s.At w a) (ho : s.ok) : e_B w 41 #[a_N b] (a_Y s.names 1) := by
 refine ⟨fun args W => by kernel_rfl, fun W hW2 => ?_⟩
 obtain ⟨hb, c0, c1, c2, c3, c4, c5⟩ := hB.below hW2
 have HM := a_0 (b_Q a.nA s.names a.nC 1 W (hW.below hW2) (hA.names.below hW2) ho.names o_ hA.cn)
 clear hW hB hA ho hW2
 generalize a_Y s.names 1 = v at *
 go_enter func41, ntmps41
 go_wp2_with (go_at_call 42; refine (HM.out).mono ?_; rintro e w1 ⟨rfl, hb1⟩)
 exact m_6
theorem k_d (b : Nat) (s : Stp) (a : Adr) (w : World) (hW : a_X w 2 a_J) (hB : b_E w b s a) (hA : s.At w a) (ho : s.ok) : e_B w 43 #[a_N b] (a_Y s.others 1) := by
 refine ⟨fun args W => by kernel_rfl, fun W hW2 => ?_⟩
 obtain ⟨hb, c0, c1, c2, c3, c4, c5⟩ := hB.below hW2
 have HM := a_0 (b_Q a.oA s.others a.oC 1 W (hW.below hW2) (hA.others.below hW2) ho.others o_ hA.co)
 clear hW hB hA ho hW2
 generalize a_Y s.others 1 = v at *
 go_enter func43, ntmps43
 go_wp2_with (go_at_call 42; refine (HM.out).mono ?_; rintro e w1 ⟨rfl, hb1⟩)
 exact m_6
theorem m_C (b : Nat) (s : Stp) (a : Adr) (w : World) (hW : a_X w 2 a_J) (hB : b_E w b s a) (hA : s.At w a) (ho : s.ok) : e_B w 51 #[a_N b] (a_Y s.names 0) := by
 refine ⟨fun args W => by kernel_rfl, fun W hW2 => ?_⟩
 obtain ⟨hb, c0, c1, c2, c3, c4, c5⟩ := hB.below hW2
 have HM := a_0 (b_Q a.nA s.names a.nC 0 W (hW.below hW2) (hA.names.below hW2) ho.names o_ hA.cn)
 clear hW hB hA ho hW2
 generalize a_Y s.names 0 = v at *
 go_enter func51, ntmps51
 go_wp2_with (go_at_call 42; refine (HM.out).mono ?_; rintro e w1 ⟨rfl, hb1⟩)
 exact m_6
theorem m_w (b : Nat) (s : Stp) (a : Adr) (w : World) (hW : a_X w 2 a_J) (hB : b_E w b s a) (hA : s.At w a) (ho : s.ok) : e_B w 55 #[a_N b] (a_Y s.names 0) := by
 refine ⟨fun args W => by kernel_rfl, fun W hW2 => ?_⟩
 obtain ⟨hb, c0, c1, c2, c3, c4, c5⟩ := hB.below hW2
 have HM := a_0 (b_Q a.nA s.names a.nC 0 W (hW.below hW2) (hA.names.below hW2) ho.names o_ hA.cn)
 clear hW hB hA ho hW2
 generalize a_Y s.names 0 = v at *
 go_enter func55, ntmps55
 go_wp2_with (go_at_call 42; refine (HM.out).mono ?_; rintro e w1 ⟨rfl, hb1⟩)
 exact m_6
theorem m_L (b : Nat) (s : Stp) (a : Adr) (w : World) (hW : a_X w 2 a_J) (hB : b_E w b s a) (hA : s.At w a) (ho : s.ok) : e_B w 56 #[a_N b] (a_Y s.others 0) := by
 refine ⟨fun args W => by kernel_rfl, fun W hW2 => ?_⟩
 obtain ⟨hb, c0, c1, c2, c3, c4, c5⟩ := hB.below hW2
 have HM := a_0 (b_Q a.oA s.others a.oC 0 W (hW.below hW2) (hA.others.below hW2) ho.others o_ hA.co)
 clear hW hB hA ho hW2
 generalize a_Y s.others 0 = v at *
 go_enter func56, ntmps56
 go_wp2_with (go_at_call 42; refine (HM.out).mono ?_; rintro e w1 ⟨rfl, hb1⟩)
 exact m_6
theorem r_B (x : It) (E : Option Addr) (ec : Nat) (w : World) (hW : a_X w 2 a_J) (hn : c_L w E x.expr) (ho : x.ok) : Calls prog 47 (#[itV x E ec] ++ #[]) w fun e w' => e = .returned (.int .i64 (a_x x.expr)) ∧ Below w.heap.size w w' := by
 have HM := a_0 (fun W (hb : Below w.heap.size w W) => c_R E x.expr ec W (hW.below hb) (hn.below hb) ho.2 ho.1)
 clear hW hn ho
 obtain ⟨xn, xf, xc, xm, xe⟩ := x
 simp only at HM
 show Calls prog 47 #[.agg #[str xn, .int .i64 xf, str xc, .int .i64 xm, .slice E xe.length ec]] w _
 generalize a_x xe = v at *
 generalize xe.length = le at *
 go_enter func47, ntmps47
 go_wp2_with (go_at_call 45; refine (HM.out _ zX).mono ?_; rintro e w1 ⟨rfl, hb1⟩)
 go_ret
 exact ⟨rfl, a_n hb1 zX⟩
theorem o_z (x : It) (E : Option Addr) (ec : Nat) (w : World) (hW : a_X w 2 a_J) : Calls prog 49 (#[itV x E ec] ++ #[]) w fun e w' => e = .returned (.int .i64 (c_f x.col)) ∧ Below w.heap.size w w' := by
 have HM := a_0 (fun W (hb : Below w.heap.size w W) => c_m x.col W (hW.below hb))
 clear hW
 obtain ⟨xn, xf, xc, xm, xe⟩ := x
 simp only at HM
 show Calls prog 49 #[.agg #[str xn, .int .i64 xf, str xc, .int .i64 xm, .slice E xe.length ec]] w _
 generalize c_f xc = v at *
 generalize xe.length = le at *
 go_enter func49, ntmps49
 go_wp2_with (go_at_call 50; refine (HM.out _ zX).mono ?_; rintro e w1 ⟨rfl, hb1⟩)
 go_ret
 exact ⟨rfl, a_n hb1 zX⟩
theorem n_A (b : Nat) (s : Stp) (a : Adr) (x : It) (E : Option Addr) (ec : Nat) (w : World) (hW : a_X w 2 a_J) (hB : b_E w b s a) (hA : s.At w a) (ho : s.ok) : Calls prog 53 (#[itV x E ec] ++ #[a_N b]) w fun e w' => e = .returned (.int .i64 (c_e s.names x)) ∧ Below w.heap.size w w' := by
 have HM := a_0 (fun W (hb : Below w.heap.size w W) => show Calls prog 54 #[.agg #[.int .i64 s.op, str s.src, .slice a.nA s.names.length a.nC, .slice a.oA s.others.length a.oC, .slice a.iA s.items.length a.iC, .slice a.cA s.cond.length a.cC], .agg #[str x.name, .int .i64 x.fn, str x.col, .int .i64 x.num, .slice E x.expr.length ec]] W (fun e w' => e = .returned (.int .i64 (c_e s.names x)) ∧ Below W.heap.size W w') from g_i s a x E ec W (hW.below hb) (hA.names.below hb) ho.names)
 have HB := a_0 (fun W (hb : Below w.heap.size w W) => hB.below hb)
 clear hW hB hA ho
 show Calls prog 53 #[.agg #[str x.name, .int .i64 x.fn, str x.col, .int .i64 x.num, .slice E x.expr.length ec], a_N b] w _
 generalize c_e s.names x = v at *
 obtain ⟨hb, c0, c1, c2, c3, c4, c5⟩ := HB.out (w.alloc (.cells #[str x.name, .int .i64 x.fn, str x.col, .int .i64 x.num, .slice E x.expr.length ec] 61)) zX
 generalize x.expr.length = le at *
 generalize s.names.length = l1 at *
 generalize s.others.length = l2 at *
 generalize s.items.length = l3 at *
 generalize s.cond.length = l4 at *
 go_enter func53, ntmps53
 go_wp2_with (go_at_call 54; refine (HM.out _ zX).mono ?_; rintro e w1 ⟨rfl, hb1⟩)
 go_ret
 exact ⟨rfl, a_n hb1 zX⟩
theorem o_E {f : FuncId} {args : Array Value} {w : World} {a b : Int} (H : Calls prog f args w fun e w' => e = .returned (.int .i64 a) ∧ Below w.heap.size w w') (h : a = b) : Calls prog f args w fun e w' => e = .returned (.int .i64 b) ∧ Below w.heap.size w w' := by
 subst h
 exact H
def h_1 (s : Stp) : Int := b_8 (d_3 s.src) (b_8 (a_Y s.names 1) (b_8 (a_Y s.others 1) (if s.names.length = s.others.length then 0 else 8)))
theorem g_u (a b c : Int) : b_8 (b_8 a b) c = b_8 a (b_8 b c) := by
 unfold b_8
 by_cases ha : a = 0
 ·subst ha
  by_cases hb : b = 0
  ·subst hb; rfl
  ·simp [hb]
 ·simp [ha]
theorem h_s (s : Stp) : g_d s = b_8 (h_1 s) (a_F s.items 0 false true false false fun x => c_f x.col) := by
 unfold g_d h_1
 rw [g_u, g_u, g_u]
theorem k_9 {s : Stp} (h : s.items = []) : g_d s = h_1 s := by
 rw [h_s, h]
 show b_8 (h_1 s) 0 = h_1 s
 unfold b_8
 split
 ·rename_i h; exact h.symm
 ·rfl
theorem two (a b : Int) : b_p (fun j => [a, b].getD j 0) 2 = b_8 a b := by
 by_cases ha : a = 0 <;> simp [b_p, b_8, ha]
theorem t_7 (a b c : Int) : b_p (fun j => [a, b, c].getD j 0) 3 = b_8 a (b_8 b c) := by
 by_cases ha : a = 0 <;> by_cases hb : b = 0 <;> simp [b_p, b_8, ha, hb]
theorem w_R (a b c d : Int) : b_p (fun j => [a, b, c, d].getD j 0) 4 = b_8 a (b_8 b (b_8 c d)) := by
 by_cases ha : a = 0 <;> by_cases hb : b = 0 <;> by_cases hc : c = 0 <;> simp [b_p, b_8, ha, hb, hc]
theorem m_9 (s : Stp) : f_W s = b_8 (a_Y s.names 0) (b_8 (if s.names.length + s.items.length = 0 then 2 else 0) (a_F s.items 0 true true false false (c_e s.names))) := by
 unfold f_W
 congr 1
 by_cases h : s.names.length + s.items.length = 0
 ·rw [if_pos h, if_pos h]; rfl
 ·rw [if_neg h, if_neg h]; rfl
set_option maxRecDepth 100000
theorem f_Z (b3 b : Nat) (s : Stp) (a : Adr) (w : World) (hW : a_X w 2 a_J) (hB : b_E w b s a) (h3 : b3 < w.heap.size) (hf : w.cell? ⟨b3, 0, none⟩ = some (.func (.func 37) #[] #[a_N b])) (hA : s.At w a) (ho : s.ok) : e_B w 39 #[a_N b3, a_N b] (h_1 s) := by
 refine ⟨fun args W => by kernel_rfl, fun W hW2 => ?_⟩
 obtain ⟨hb, c0, c1, c2, c3, c4, c5⟩ := hB.below hW2
 have hb3 := Nat.lt_of_lt_of_le h3 hW2.size
 have cf := (hW2.cell (p := ⟨b3, 0, none⟩) h3).trans hf
 have HT1 := a_0 (fun V (h : Below W.heap.size W V) => h_I b s a V ((hW.below hW2).below h) ((hB.below hW2).below h) ho)
 have HT2 := a_0 (fun V (h : Below W.heap.size W V) => k_r b s a V ((hW.below hW2).below h) ((hB.below hW2).below h) ((hA.below hW2).below h) ho)
 have HT3 := a_0 (fun V (h : Below W.heap.size W V) => k_d b s a V ((hW.below hW2).below h) ((hB.below hW2).below h) ((hA.below hW2).below h) ho)
 have HX := a_0 (show h_1 s = b_8 (d_3 s.src) (b_8 (a_Y s.names 1) (b_8 (a_Y s.others 1) (if s.names.length = s.others.length then 0 else 8))) from rfl)
 have hl1 := ho.names
 have hl2 := ho.others
 clear hW hB hA ho hW2 hf h3
 generalize h_1 s = r at *
 generalize d_3 s.src = e1 at *
 generalize a_Y s.names 1 = e2 at *
 generalize a_Y s.others 1 = e3 at *
 generalize s.names.length = ln at *
 generalize s.others.length = lo at *
 have HS := a_0 (fun w' (hbb : Below W.heap.size W w') => show w'.cell? ⟨b3, 0, none⟩ = some (.func (.func 37) #[] #[a_N b]) ∧ w'.cell? ⟨b, 2, none⟩ = some (.slice a.nA ln a.nC) ∧ w'.cell? ⟨b, 3, none⟩ = some (.slice a.oA lo a.oC) ∧ Below W.heap.size W w' from
  ⟨(hbb.cell (p := ⟨b3, 0, none⟩) hb3).trans cf, (hbb.cell (p := ⟨b, 2, none⟩) hb).trans c2, (hbb.cell (p := ⟨b, 3, none⟩) hb).trans c3, hbb⟩)
 clear c0 c1 c2 c3 c4 c5 cf
 go_enter func39, ntmps39
 go_wp2
 refine wp_region_held_drew (S := (fun w' => w'.cell? ⟨b3, 0, none⟩ = some (.func (.func 37) #[] #[a_N b]) ∧ w'.cell? ⟨b, 2, none⟩ = some (.slice a.nA ln a.nC) ∧ w'.cell? ⟨b, 3, none⟩ = some (.slice a.oA lo a.oC) ∧ Below W.heap.size W w')) k_ (by (try dsimp only); exact HS.out _ (Below.drew (b_ _ _))) (fun hHeld => ?_)
 refine zT 0 ?_; refine zT 1 ?_; refine zT 2 ?_; refine zT 3 ?_; refine zT 4 ?_; refine zT 5 ?_; refine zT 6 ?_; refine zT 7 ?_; refine zT 8 ?_; refine zT 9 ?_
 refine zR 10 (fun K hK => ?_)
 go_simp
 go_wp2_with (go_at_call 44; refine (c_P _ _ _).mono ?_; rintro e q1 ⟨⟨lb, v, rfl, hv, ht⟩, hb1⟩; have hq1 := a_n hb1 (show Below W.heap.size W _ from Below.drew (b_ _ _)); have HT := a_0 ht; have HV := a_0 hv; clear ht hv)
 refine zB hK (HS.out _ hq1) (fun hHeld => ?_)
 clear hK K
 refine zR 11 (fun K hK => ?_)
 go_simp
 refine zB hK (HS.out _ (hq1.alloc hq1.size _)) (fun hHeld => ?_)
 clear hK K
 have hfin : b_p (fun j => (([⟨37, #[a_N b], e1⟩, ⟨41, #[a_N b], e2⟩, ⟨43, #[a_N b], e3⟩, ⟨90, lb, v⟩] : List Thk).map Thk.v).getD j 0) 4 = r := by
  rw [HX.out]
  have hv2 : v = if ln = lo then 0 else 8 := by
   rw [HV.out]
   by_cases h : ln = lo
   ·simp [h]
   ·have h9 : ¬ (ln : Int) = (lo : Int) := by omega
    simp [h, h9]
  rw [← hv2, ← w_R]
  rfl
 have B1 : Below q1.heap.size q1 (q1.alloc (.cells #[.func (.func 37) #[] #[a_N b], .func (.func 41) #[] #[a_N b], .func (.func 43) #[] #[a_N b], .func (.func 90) #[] lb] 73)) := (b_ _ _).alloc (l_ _) _
 have B0 := a_n B1 hq1
 have T1 := a_0 (HT1.out _ B0)
 have T2 := a_0 (HT2.out _ B0)
 have T3 := a_0 (HT3.out _ B0)
 have T4 := a_0 (HT.out.below B1)
 have HFst := a_0 (o_E (c_x q1.heap.size 4 [⟨37, #[a_N b], e1⟩, ⟨41, #[a_N b], e2⟩, ⟨43, #[a_N b], e3⟩, ⟨90, lb, v⟩] (q1.alloc (.cells #[.func (.func 37) #[] #[a_N b], .func (.func 41) #[] #[a_N b], .func (.func 43) #[] #[a_N b], .func (.func 90) #[] lb] 73)) s_ (show (4 : Nat) ≤ 10 from by decide) (fun j h => by
   have h9 : j < 4 := h
   match j, h9 with
   | 0, _ => simp [go_sem]
   | 1, _ => simp [go_sem]
   | 2, _ => simp [go_sem]
   | 3, _ => simp [go_sem]) (fun j h => by
   have h9 : j < 4 := h
   match j, h9 with
   | 0, _ => exact T1.out
   | 1, _ => exact T2.out
   | 2, _ => exact T3.out
   | 3, _ => exact T4.out)) hfin)
 refine zR 12 (fun K hK => ?_)
 go_simp
 go_wp2_with (go_at_call 40; go_loud (refine (HFst.out).mono ?_; rintro e q8 ⟨rfl, hb8⟩; have hq8 := a_n hb8 B0))
 refine zB hK (HS.out _ hq8) (fun hHeld => ?_)
 clear hK K
 refine zR 13 (fun K hK => ?_)
 go_simp
 refine zB hK (by (try dsimp only); assumption) (fun hHeld => ?_)
 clear hK K
 refine wpAnyH_done k_ ?_ _
 go_wp2
 go_ret
 exact ⟨rfl, hq8⟩
set_option maxRecDepth 512
theorem m_Y (b : Nat) (s : Stp) (a : Adr) (w : World) (hW : a_X w 2 a_J) (hB : b_E w b s a) (hA : s.At w a) (ho : s.ok) (hop : s.op = 4 ∨ s.op = 5) : e_B w 48 #[a_N b] (a_F s.items 0 false true false false (fun x => c_f x.col)) := by
 refine ⟨fun args W => by kernel_rfl, fun W hW2 => ?_⟩
 obtain ⟨hb, c0, c1, c2, c3, c4, c5⟩ := hB.below hW2
 have HM := a_0 (c_H s.op false true false false (.inr (.inl ⟨hop, rfl, rfl, rfl, rfl⟩)) s.src a.nA s.names.length a.nC a.oA s.others.length a.oC a.iA a.iC a.cA s.cond.length a.cC s.items 0 49 #[] (fun x => c_f x.col) W (hW.below hW2) (hA.items.below hW2) ho.items hA.ci o_ (fun args W => by kernel_rfl) (fun k h E ec V hV hn => o_z _ E ec V ((hW.below hW2).below hV)))
 clear hW hB hA ho hW2
 skip
 generalize a_F s.items 0 false true false false (fun x => c_f x.col) = v at *
 generalize s.names.length = l1 at *
 generalize s.others.length = l2 at *
 generalize s.items.length = l3 at *
 generalize s.cond.length = l4 at *
 go_enter func48, ntmps48
 go_wp2_with (go_at_call 46; refine (HM.out).mono ?_; rintro e w1 ⟨rfl, hb1⟩)
 exact m_6
theorem m_o (b : Nat) (s : Stp) (a : Adr) (w : World) (hW : a_X w 2 a_J) (hB : b_E w b s a) (hA : s.At w a) (ho : s.ok) (hop : s.op = 11) : e_B w 52 #[a_N b] (a_F s.items 0 true true false false (c_e s.names)) := by
 refine ⟨fun args W => by kernel_rfl, fun W hW2 => ?_⟩
 obtain ⟨hb, c0, c1, c2, c3, c4, c5⟩ := hB.below hW2
 have HM := a_0 (c_H 11 true true false false (.inr (.inr (.inl ⟨rfl, rfl, rfl, rfl, rfl⟩))) s.src a.nA s.names.length a.nC a.oA s.others.length a.oC a.iA a.iC a.cA s.cond.length a.cC s.items 0 53 #[a_N b] (c_e s.names) W (hW.below hW2) (hA.items.below hW2) ho.items hA.ci o_ (fun args W => by kernel_rfl) (fun k h E ec V hV hn => n_A b s a _ E ec V ((hW.below hW2).below hV) ((hB.below hW2).below hV) ((hA.below hW2).below hV) ho))
 clear hW hB hA ho hW2
 rw [hop] at c0
 generalize a_F s.items 0 true true false false (c_e s.names) = v at *
 generalize s.names.length = l1 at *
 generalize s.others.length = l2 at *
 generalize s.items.length = l3 at *
 generalize s.cond.length = l4 at *
 go_enter func52, ntmps52
 go_wp2_with (go_at_call 46; refine (HM.out).mono ?_; rintro e w1 ⟨rfl, hb1⟩)
 exact m_6
theorem m_K (b : Nat) (s : Stp) (a : Adr) (w : World) (hW : a_X w 2 a_J) (hB : b_E w b s a) (hA : s.At w a) (ho : s.ok) (hop : s.op = 12) : e_B w 57 #[a_N b] (a_F s.items 1 true true true false b_I) := by
 refine ⟨fun args W => by kernel_rfl, fun W hW2 => ?_⟩
 obtain ⟨hb, c0, c1, c2, c3, c4, c5⟩ := hB.below hW2
 have HM := a_0 (c_H 12 true true true false (.inr (.inr (.inr ⟨rfl, rfl, rfl, rfl, rfl⟩))) s.src a.nA s.names.length a.nC a.oA s.others.length a.oC a.iA a.iC a.cA s.cond.length a.cC s.items 1 58 #[] b_I W (hW.below hW2) (hA.items.below hW2) ho.items hA.ci o_ (fun args W => by kernel_rfl) (fun k h E ec V hV hn => g_b _ E ec V ((hW.below hW2).below hV)))
 clear hW hB hA ho hW2
 rw [hop] at c0
 generalize a_F s.items 1 true true true false b_I = v at *
 generalize s.names.length = l1 at *
 generalize s.others.length = l2 at *
 generalize s.items.length = l3 at *
 generalize s.cond.length = l4 at *
 go_enter func57, ntmps57
 go_wp2_with (go_at_call 46; refine (HM.out).mono ?_; rintro e w1 ⟨rfl, hb1⟩)
 exact m_6
def g_8 (s : Stp) : Prop := ∀ (a : Adr) (w : World), a_X w 2 a_J → b_R w → s.At w a → s.ok → a_W s.op s.src s.names.length s.others.length s.items.length s.cond.length = false → Calls prog 15 #[s.agg a] w fun e w' => e = .returned (.int .i64 (opS s)) ∧ Below w.heap.size w w'
theorem d_U {w w1 : World} {s : Stp} {a : Adr} {t : TypeId} (h : Below (w.heap.size + 1) (w.alloc (.cells (s.cells a).toArray t)) w1) : b_E w1 w.heap.size s a := by
 obtain ⟨m0, m1, m2, m3, m4, m5, hlw⟩ := b_k h
 exact ⟨hlw, m0, m1, m2, m3, m4, m5⟩
set_option maxRecDepth 100000
theorem u_H (s : Stp) (hop : s.op = 0) : g_8 s := by
 intro a w hW hU hA ho hu
 have HX := a_0 (show opS s = g_X s.src from by unfold opS; simp [hop])
 have HSh := a_0 (show ∀ W, Below w.heap.size w W → Calls prog 36 #[.agg #[.int .i64 0, str s.src, .slice a.nA s.names.length a.nC, .slice a.oA s.others.length a.oC, .slice a.iA s.items.length a.iC, .slice a.cA s.cond.length a.cC]] W (fun e w' => e = .returned (.bool true) ∧ Below W.heap.size W w') from fun W hb => by
  refine l_N ?_; intro h
  rw [hu, hop] at h
  exact h)
 have HBx := a_0 (fun w1 (h : Below (w.heap.size + 1) (w.alloc (.cells #[.int .i64 0, str s.src, .slice a.nA s.names.length a.nC, .slice a.oA s.others.length a.oC, .slice a.iA s.items.length a.iC, .slice a.cA s.cond.length a.cC] 27)) w1) => show b_E w1 w.heap.size s a from d_U (t := 27) (by unfold Stp.cells; rw [hop]; exact h))
 refine m_W ?_; intro HW HA HO HOp
 have hbox : Below (w.heap.size + 1) (w.alloc (.cells #[.int .i64 0, str s.src, .slice a.nA s.names.length a.nC, .slice a.oA s.others.length a.oC, .slice a.iA s.items.length a.iC, .slice a.cA s.cond.length a.cC] 27)) (w.alloc (.cells #[.int .i64 0, str s.src, .slice a.nA s.names.length a.nC, .slice a.oA s.others.length a.oC, .slice a.iA s.items.length a.iC, .slice a.cA s.cond.length a.cC] 27)) := b_ _ _
 show Calls prog 15 #[.agg #[.int .i64 s.op, str s.src, .slice a.nA s.names.length a.nC, .slice a.oA s.others.length a.oC, .slice a.iA s.items.length a.iC, .slice a.cA s.cond.length a.cC]] w _
 rw [hop]
 clear hW hU hA ho hu hop
 have HM := a_0 (fun W (hb : Below w.heap.size w W) => show Calls prog 38 #[str s.src, .bool false] W (fun e w' => e = .returned (.int .i64 (g_X s.src)) ∧ Below W.heap.size W w') from e_h s.src false W (HW.out.below hb) HO.out.src)
 generalize g_X s.src = v at *
 generalize opS s = r at *
 go_enter func15, ntmps15
 go_wp2_with (first
  | (go_at_call 36; refine (HSh.out _ (a_5 hbox)).mono ?_; rintro e w1 ⟨rfl, hb1⟩; have hcur := a_4 hbox s_ hb1; clear hbox; have hbx := HBx.out _ hcur; obtain ⟨hlw, c0, c1, c2, c3, c4, c5⟩ := HBx.out _ hcur; rw [HOp.out] at c0; have hw1 := a_5 hcur; have hwb : Below w1.heap.size w1 (w1.alloc (.cells #[.func (.func 37) #[] #[a_N w.heap.size]] 73)) := zX; have hff : (w1.alloc (.cells #[.func (.func 37) #[] #[a_N w.heap.size]] 73)).cell? ⟨w1.heap.size, 0, none⟩ = some (.func (.func 37) #[] #[a_N w.heap.size]) := (by simp [go_sem]); have hfl : w1.heap.size < (w1.alloc (.cells #[.func (.func 37) #[] #[a_N w.heap.size]] 73)).heap.size := s_)
  | (go_at_call 38; refine (HM.out _ (a_n hwb hw1)).mono ?_; rintro e w2 ⟨rfl, hb2⟩))
 exact s_a
theorem u_v (s : Stp) (hop : s.op = 1) : g_8 s := by
 intro a w hW hU hA ho hu
 have HX := a_0 (show opS s = a_x s.cond from by unfold opS; simp [hop])
 have HSh := a_0 (show ∀ W, Below w.heap.size w W → Calls prog 36 #[.agg #[.int .i64 1, str s.src, .slice a.nA s.names.length a.nC, .slice a.oA s.others.length a.oC, .slice a.iA s.items.length a.iC, .slice a.cA s.cond.length a.cC]] W (fun e w' => e = .returned (.bool true) ∧ Below W.heap.size W w') from fun W hb => by
  refine l_N ?_; intro h
  rw [hu, hop] at h
  exact h)
 have HBx := a_0 (fun w1 (h : Below (w.heap.size + 1) (w.alloc (.cells #[.int .i64 1, str s.src, .slice a.nA s.names.length a.nC, .slice a.oA s.others.length a.oC, .slice a.iA s.items.length a.iC, .slice a.cA s.cond.length a.cC] 27)) w1) => show b_E w1 w.heap.size s a from d_U (t := 27) (by unfold Stp.cells; rw [hop]; exact h))
 refine m_W ?_; intro HW HA HO HOp
 have hbox : Below (w.heap.size + 1) (w.alloc (.cells #[.int .i64 1, str s.src, .slice a.nA s.names.length a.nC, .slice a.oA s.others.length a.oC, .slice a.iA s.items.length a.iC, .slice a.cA s.cond.length a.cC] 27)) (w.alloc (.cells #[.int .i64 1, str s.src, .slice a.nA s.names.length a.nC, .slice a.oA s.others.length a.oC, .slice a.iA s.items.length a.iC, .slice a.cA s.cond.length a.cC] 27)) := b_ _ _
 show Calls prog 15 #[.agg #[.int .i64 s.op, str s.src, .slice a.nA s.names.length a.nC, .slice a.oA s.others.length a.oC, .slice a.iA s.items.length a.iC, .slice a.cA s.cond.length a.cC]] w _
 rw [hop]
 clear hW hU hA ho hu hop
 have HM := a_0 (fun W (hb : Below w.heap.size w W) => c_R a.cA s.cond a.cC W (HW.out.below hb) (HA.out.cond.below hb) HO.out.cond HO.out.condN)
 generalize a_x s.cond = v at *
 generalize opS s = r at *
 go_enter func15, ntmps15
 go_wp2_with (first
  | (go_at_call 36; refine (HSh.out _ (a_5 hbox)).mono ?_; rintro e w1 ⟨rfl, hb1⟩; have hcur := a_4 hbox s_ hb1; clear hbox; have hbx := HBx.out _ hcur; obtain ⟨hlw, c0, c1, c2, c3, c4, c5⟩ := HBx.out _ hcur; rw [HOp.out] at c0; have hw1 := a_5 hcur; have hwb : Below w1.heap.size w1 (w1.alloc (.cells #[.func (.func 37) #[] #[a_N w.heap.size]] 73)) := zX; have hff : (w1.alloc (.cells #[.func (.func 37) #[] #[a_N w.heap.size]] 73)).cell? ⟨w1.heap.size, 0, none⟩ = some (.func (.func 37) #[] #[a_N w.heap.size]) := (by simp [go_sem]); have hfl : w1.heap.size < (w1.alloc (.cells #[.func (.func 37) #[] #[a_N w.heap.size]] 73)).heap.size := s_)
  | (go_at_call 45; refine (HM.out _ (a_n hwb hw1)).mono ?_; rintro e w2 ⟨rfl, hb2⟩))
 exact s_a
theorem u_e (s : Stp) (hop : s.op = 2) : g_8 s := by
 intro a w hW hU hA ho hu
 have HX := a_0 (show opS s = a_F s.items 1 false false false true (fun x => a_x x.expr) from by unfold opS; simp [hop])
 have HSh := a_0 (show ∀ W, Below w.heap.size w W → Calls prog 36 #[.agg #[.int .i64 2, str s.src, .slice a.nA s.names.length a.nC, .slice a.oA s.others.length a.oC, .slice a.iA s.items.length a.iC, .slice a.cA s.cond.length a.cC]] W (fun e w' => e = .returned (.bool true) ∧ Below W.heap.size W w') from fun W hb => by
  refine l_N ?_; intro h
  rw [hu, hop] at h
  exact h)
 have HBx := a_0 (fun w1 (h : Below (w.heap.size + 1) (w.alloc (.cells #[.int .i64 2, str s.src, .slice a.nA s.names.length a.nC, .slice a.oA s.others.length a.oC, .slice a.iA s.items.length a.iC, .slice a.cA s.cond.length a.cC] 27)) w1) => show b_E w1 w.heap.size s a from d_U (t := 27) (by unfold Stp.cells; rw [hop]; exact h))
 refine m_W ?_; intro HW HA HO HOp
 have hbox : Below (w.heap.size + 1) (w.alloc (.cells #[.int .i64 2, str s.src, .slice a.nA s.names.length a.nC, .slice a.oA s.others.length a.oC, .slice a.iA s.items.length a.iC, .slice a.cA s.cond.length a.cC] 27)) (w.alloc (.cells #[.int .i64 2, str s.src, .slice a.nA s.names.length a.nC, .slice a.oA s.others.length a.oC, .slice a.iA s.items.length a.iC, .slice a.cA s.cond.length a.cC] 27)) := b_ _ _
 show Calls prog 15 #[.agg #[.int .i64 s.op, str s.src, .slice a.nA s.names.length a.nC, .slice a.oA s.others.length a.oC, .slice a.iA s.items.length a.iC, .slice a.cA s.cond.length a.cC]] w _
 rw [hop]
 clear hW hU hA ho hu hop
 have HM := a_0 (fun W (hb : Below w.heap.size w W) => c_H 2 false false false true (.inl ⟨rfl, rfl, rfl, rfl, rfl⟩) s.src a.nA s.names.length a.nC a.oA s.others.length a.oC a.iA a.iC a.cA s.cond.length a.cC s.items 1 47 #[] (fun x => a_x x.expr) W (HW.out.below hb) (HA.out.items.below hb) HO.out.items HA.out.ci o_ (fun args W => by kernel_rfl) (fun k h E ec V hV hn => r_B _ E ec V ((HW.out.below hb).below hV) hn (HO.out.item _ (List.getElem_mem h))))
 generalize a_F s.items 1 false false false true (fun x => a_x x.expr) = v at *
 generalize opS s = r at *
 go_enter func15, ntmps15
 go_wp2_with (first
  | (go_at_call 36; refine (HSh.out _ (a_5 hbox)).mono ?_; rintro e w1 ⟨rfl, hb1⟩; have hcur := a_4 hbox s_ hb1; clear hbox; have hbx := HBx.out _ hcur; obtain ⟨hlw, c0, c1, c2, c3, c4, c5⟩ := HBx.out _ hcur; rw [HOp.out] at c0; have hw1 := a_5 hcur; have hwb : Below w1.heap.size w1 (w1.alloc (.cells #[.func (.func 37) #[] #[a_N w.heap.size]] 73)) := zX; have hff : (w1.alloc (.cells #[.func (.func 37) #[] #[a_N w.heap.size]] 73)).cell? ⟨w1.heap.size, 0, none⟩ = some (.func (.func 37) #[] #[a_N w.heap.size]) := (by simp [go_sem]); have hfl : w1.heap.size < (w1.alloc (.cells #[.func (.func 37) #[] #[a_N w.heap.size]] 73)).heap.size := s_)
  | (go_at_call 46; refine (HM.out _ (a_n hwb hw1)).mono ?_; rintro e w2 ⟨rfl, hb2⟩))
 exact s_a
theorem v_g (s : Stp) (hop : s.op = 3) : g_8 s := by
 intro a w hW hU hA ho hu
 have HX := a_0 (show opS s = a_Y s.names 1 from by unfold opS; simp [hop])
 have HSh := a_0 (show ∀ W, Below w.heap.size w W → Calls prog 36 #[.agg #[.int .i64 3, str s.src, .slice a.nA s.names.length a.nC, .slice a.oA s.others.length a.oC, .slice a.iA s.items.length a.iC, .slice a.cA s.cond.length a.cC]] W (fun e w' => e = .returned (.bool true) ∧ Below W.heap.size W w') from fun W hb => by
  refine l_N ?_; intro h
  rw [hu, hop] at h
  exact h)
 have HBx := a_0 (fun w1 (h : Below (w.heap.size + 1) (w.alloc (.cells #[.int .i64 3, str s.src, .slice a.nA s.names.length a.nC, .slice a.oA s.others.length a.oC, .slice a.iA s.items.length a.iC, .slice a.cA s.cond.length a.cC] 27)) w1) => show b_E w1 w.heap.size s a from d_U (t := 27) (by unfold Stp.cells; rw [hop]; exact h))
 refine m_W ?_; intro HW HA HO HOp
 have hbox : Below (w.heap.size + 1) (w.alloc (.cells #[.int .i64 3, str s.src, .slice a.nA s.names.length a.nC, .slice a.oA s.others.length a.oC, .slice a.iA s.items.length a.iC, .slice a.cA s.cond.length a.cC] 27)) (w.alloc (.cells #[.int .i64 3, str s.src, .slice a.nA s.names.length a.nC, .slice a.oA s.others.length a.oC, .slice a.iA s.items.length a.iC, .slice a.cA s.cond.length a.cC] 27)) := b_ _ _
 show Calls prog 15 #[.agg #[.int .i64 s.op, str s.src, .slice a.nA s.names.length a.nC, .slice a.oA s.others.length a.oC, .slice a.iA s.items.length a.iC, .slice a.cA s.cond.length a.cC]] w _
 rw [hop]
 clear hW hU hA ho hu hop
 have HM := a_0 (fun W (hb : Below w.heap.size w W) => b_Q a.nA s.names a.nC 1 W (HW.out.below hb) (HA.out.names.below hb) HO.out.names o_ HA.out.cn)
 generalize a_Y s.names 1 = v at *
 generalize opS s = r at *
 go_enter func15, ntmps15
 go_wp2_with (first
  | (go_at_call 36; refine (HSh.out _ (a_5 hbox)).mono ?_; rintro e w1 ⟨rfl, hb1⟩; have hcur := a_4 hbox s_ hb1; clear hbox; have hbx := HBx.out _ hcur; obtain ⟨hlw, c0, c1, c2, c3, c4, c5⟩ := HBx.out _ hcur; rw [HOp.out] at c0; have hw1 := a_5 hcur; have hwb : Below w1.heap.size w1 (w1.alloc (.cells #[.func (.func 37) #[] #[a_N w.heap.size]] 73)) := zX; have hff : (w1.alloc (.cells #[.func (.func 37) #[] #[a_N w.heap.size]] 73)).cell? ⟨w1.heap.size, 0, none⟩ = some (.func (.func 37) #[] #[a_N w.heap.size]) := (by simp [go_sem]); have hfl : w1.heap.size < (w1.alloc (.cells #[.func (.func 37) #[] #[a_N w.heap.size]] 73)).heap.size := s_)
  | (go_at_call 42; refine (HM.out _ (a_n hwb hw1)).mono ?_; rintro e w2 ⟨rfl, hb2⟩))
 exact s_a
end Go.Proofs.YtmbeeefkpgfgmaaGreatDoor
