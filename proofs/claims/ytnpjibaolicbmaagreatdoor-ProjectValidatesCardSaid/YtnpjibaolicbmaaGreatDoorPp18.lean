/- Parts of the proof. -/
import Derived.Test.YtnpjibaolicbmaaGreatDoorPp16
import Derived.ChangeAlike
import Derived.BigRegion
set_option linter.unusedVariables false
set_option linter.unusedSimpArgs false
set_option maxHeartbeats 8000000
namespace Go.Proofs.YtnpjibaolicbmaaGreatDoor
open Go.Proofs.Tryz
open Go.RowKit
private theorem calls_int2 {f : FuncId} {args : Array Value} {w : World} {a b : Int} (H : Calls prog f args w fun e w' => e = .returned (.int .i64 a) ∧ Below w.heap.size w w') (h : a = b) : Calls prog f args w fun e w' => e = .returned (.int .i64 b) ∧ Below w.heap.size w w' := by
 subst h
 exact H
set_option maxRecDepth 100000
theorem c_2 (op : Int) (fB cB nB eB : Bool) (hk : (op = 2 ∧ fB = false ∧ cB = false ∧ nB = false ∧ eB = true) ∨ ((op = 4 ∨ op = 5) ∧ fB = false ∧ cB = true ∧ nB = false ∧ eB = false) ∨ (op = 11 ∧ fB = true ∧ cB = true ∧ nB = false ∧ eB = false) ∨ (op = 12 ∧ fB = true ∧ cB = true ∧ nB = true ∧ eB = false)) (src : a_3) (nA : Option Addr) (ln nC : Nat) (oA : Option Addr) (lo oC : Nat) (iA : Option Addr) (iC : Nat) (cA : Option Addr) (lc cC : Nat) (its : List It) (m g : Nat) (lb : Array Value) (own : It → Int) (w : World)
  (hW : a_v w 1 a_w) (hI : h_1 w iA its) (hl : its.length ≤ 8796093022208) (hci : its.length ≤ iC) (hm : m ≤ 1) (eg : ∀ args W, (callFunc g args).run prog W = .ok (.enter g args) W)
  (hp : ∀ k (h : k < its.length) (E : Option Addr) (ec : Nat) W, Below w.heap.size w W → b_q W E its[k].expr → Calls prog g (#[itV its[k] E ec] ++ lb) W fun e w' => e = .returned (.int .i64 (own its[k])) ∧ Below W.heap.size W w') :
  Calls prog 216 #[.agg #[.int .i64 op, str src, .slice nA ln nC, .slice oA lo oC, .slice iA its.length iC, .slice cA lc cC], .int .i64 m, .func (.func g) #[] lb] w fun e w' => e = .returned (.int .i64 (a_N its m fB cB nB eB own)) ∧ Below w.heap.size w w' := by
 have n : (∃ k2 : Hid (op = 2 ∧ fB = false ∧ cB = false ∧ nB = false ∧ eB = true), True) ∨ (∃ kj : Hid ((op = 4 ∨ op = 5) ∧ fB = false ∧ cB = true ∧ nB = false ∧ eB = false), True) ∨ (∃ kg : Hid (op = 11 ∧ fB = true ∧ cB = true ∧ nB = false ∧ eB = false), True) ∨ (∃ kw : Hid (op = 12 ∧ fB = true ∧ cB = true ∧ nB = true ∧ eB = false), True) := by
  rcases hk with h | h | h | h
  ·exact .inl ⟨a_2 h, trivial⟩
  ·exact .inr (.inl ⟨a_2 h, trivial⟩)
  ·exact .inr (.inr (.inl ⟨a_2 h, trivial⟩))
  ·exact .inr (.inr (.inr ⟨a_2 h, trivial⟩))
 clear hk
 rcases n with ⟨k2, _⟩ | ⟨kj, _⟩ | ⟨kg, _⟩ | ⟨kw, _⟩
 all_goals first
  | (have := k2; (have n2 : (op == 2) = true := (by rw [k2.out.1]; rfl)); (have n2' : (op != 2) = false := (by rw [k2.out.1]; rfl)); (have n11 : (op == 11) = false := (by rw [k2.out.1]; rfl)); (have n11' : (op != 11) = true := (by rw [k2.out.1]; rfl)); (have n12 : (op == 12) = false := (by rw [k2.out.1]; rfl)); (have n12' : (op != 12) = true := (by rw [k2.out.1]; rfl)))
  | (have := kj; (have n2 : (op == 2) = false := (by rcases kj.out.1 with h | h <;> rw [h] <;> rfl)); (have n2' : (op != 2) = true := (by rcases kj.out.1 with h | h <;> rw [h] <;> rfl)); (have n11 : (op == 11) = false := (by rcases kj.out.1 with h | h <;> rw [h] <;> rfl)); (have n11' : (op != 11) = true := (by rcases kj.out.1 with h | h <;> rw [h] <;> rfl)); (have n12 : (op == 12) = false := (by rcases kj.out.1 with h | h <;> rw [h] <;> rfl)); (have n12' : (op != 12) = true := (by rcases kj.out.1 with h | h <;> rw [h] <;> rfl)))
  | (have := kg; (have n2 : (op == 2) = false := (by rw [kg.out.1]; rfl)); (have n2' : (op != 2) = true := (by rw [kg.out.1]; rfl)); (have n11 : (op == 11) = true := (by rw [kg.out.1]; rfl)); (have n11' : (op != 11) = false := (by rw [kg.out.1]; rfl)); (have n12 : (op == 12) = false := (by rw [kg.out.1]; rfl)); (have n12' : (op != 12) = true := (by rw [kg.out.1]; rfl)))
  | (have := kw; (have n2 : (op == 2) = false := (by rw [kw.out.1]; rfl)); (have n2' : (op != 2) = true := (by rw [kw.out.1]; rfl)); (have n11 : (op == 11) = false := (by rw [kw.out.1]; rfl)); (have n11' : (op != 11) = true := (by rw [kw.out.1]; rfl)); (have n12 : (op == 12) = true := (by rw [kw.out.1]; rfl)); (have n12' : (op != 12) = false := (by rw [kw.out.1]; rfl)))
 all_goals
  have HW := a_2 hW
  have HI := a_2 hI
  have HP := a_2 hp
  clear hW hI hp
  by_cases h1 : its.length < m
  ·have HE := a_2 (show a_N its m fB cB nB eB own = 2 from by unfold a_N; rw [if_pos (.inl h1)])
   go_enter func216, ntmps216
   go_wp2
   all_goals first | (exfalso; omega) | skip
   exact n_j
  by_cases h2 : 12 < its.length
  ·have HE := a_2 (show a_N its m fB cB nB eB own = 2 from by unfold a_N; rw [if_pos (.inr h2)])
   go_enter func216, ntmps216
   go_wp2
   all_goals first | (exfalso; omega) | skip
   exact n_j
  obtain ⟨G, hG⟩ : ∃ G : Nat → Int, G = fun i => if d_r its i fB cB nB eB = 0 then own (its.getD i it0) else d_r its i fB cB nB eB := ⟨_, rfl⟩
  have HE := a_2 (show a_N its m fB cB nB eB own = a_o G its.length from by unfold a_N; rw [if_neg o_, hG])
  have HG := a_2 (fun k (h : k < its.length) => show G k = if d_r its k fB cB nB eB = 0 then own its[k] else d_r its k fB cB nB eB from by
   rw [hG]; have e : its.getD k it0 = its[k] := by rw [List.getD_eq_getElem?_getD, List.getElem?_eq_getElem h]; rfl
   simp only [e])
  clear hG
  generalize a_N its m fB cB nB eB own = r at *
  have f0 : ((w.alloc (.cells #[.int .i64 op, str src, .slice nA ln nC, .slice oA lo oC, .slice iA its.length iC, .slice cA lc cC] 129)).alloc (.cells #[.func (.func g) #[] lb] 219)).cell? ⟨w.heap.size, 0, none⟩ = some (.int .i64 op) := by simp [go_sem]
  have f4 : ((w.alloc (.cells #[.int .i64 op, str src, .slice nA ln nC, .slice oA lo oC, .slice iA its.length iC, .slice cA lc cC] 129)).alloc (.cells #[.func (.func g) #[] lb] 219)).cell? ⟨w.heap.size, 4, none⟩ = some (.slice iA its.length iC) := by simp [go_sem]
  have ff : ((w.alloc (.cells #[.int .i64 op, str src, .slice nA ln nC, .slice oA lo oC, .slice iA its.length iC, .slice cA lc cC] 129)).alloc (.cells #[.func (.func g) #[] lb] 219)).cell? ⟨w.heap.size + 1, 0, none⟩ = some (.func (.func g) #[] lb) := by simp [go_sem]
  have hb2 : Below w.heap.size w ((w.alloc (.cells #[.int .i64 op, str src, .slice nA ln nC, .slice oA lo oC, .slice iA its.length iC, .slice cA lc cC] 129)).alloc (.cells #[.func (.func g) #[] lb] 219)) := zX
  have hz2 : ((w.alloc (.cells #[.int .i64 op, str src, .slice nA ln nC, .slice oA lo oC, .slice iA its.length iC, .slice cA lc cC] 129)).alloc (.cells #[.func (.func g) #[] lb] 219)).heap.size = w.heap.size + 1 + 1 := by simp
  go_enter func216, ntmps216
  go_wp2
  all_goals first | (exfalso; omega) | skip
  generalize (w.alloc (.cells #[.int .i64 op, str src, .slice nA ln nC, .slice oA lo oC, .slice iA its.length iC, .slice cA lc cC] 129)).alloc (.cells #[.func (.func g) #[] lb] 219) = w2 at *
  go_loopw [24] (fun i wr => ∃ k : Nat, k ≤ its.length ∧ i = .int .i64 k ∧ Hid (∀ j, j < k → G j = 0) ∧ Below w2.heap.size w2 wr) (fun i _ => its.length - (intOf i).toNat)
  case atStart => exact ⟨0, o_, rfl, fun j hj => absurd hj (Nat.not_lt_zero _), b_ _ _⟩
  case round =>
   obtain ⟨k, hk, rfl, HZ, hbel⟩ := hrel
   by_cases hlt : k < its.length
   ·have hbw : Below w.heap.size w wr := a_9 hbel hb2
    have hszr := hbel.size; have g0 := (hbel.cell (p := ⟨w.heap.size, 0, none⟩) (by show w.heap.size < _; omega)).trans f0; have g4 := (hbel.cell (p := ⟨w.heap.size, 4, none⟩) (by show w.heap.size < _; omega)).trans f4; have gf := (hbel.cell (p := ⟨w.heap.size + 1, 0, none⟩) (by show w.heap.size + 1 < _; omega)).trans ff
    rcases HI.out with e | ⟨g1, o1, rfl, hg1, hc1⟩
    ·exact absurd hlt e_
    obtain ⟨t0, t1, t2, t3, E, ec, t4, hE⟩ := (hc1 k hlt).below hg1 hbw; have HIts := a_2 (fun W (h : Below w.heap.size w W) i (hi : i < its.length) => (hc1 i hi).below hg1 h); have HNd := a_2 hE; have HF := a_2 (fun x (e : G k = x) (hx : x ≠ 0) => (HE.out.trans (a_q HZ.out (by rw [e]; exact hx) hlt)).trans e); have HN := a_2 (fun (e : G k = 0) => a_T HZ.out e); have HGk := a_2 (HG.out k hlt); have HPk := a_2 (fun W (h : Below w.heap.size w W) (hn : b_q W E its[k].expr) => HP.out k hlt E ec W h hn); have HS7 := a_2 (fun a b c d hs => m_w (its := its) hlt fB cB nB eB own a b c d hs); have hki : k ≤ iC := by omega
    have hkl : k ≤ its.length := by omega
    clear hc1 hE; generalize hx : its[k] = x at *; have Hx := a_2 hx; clear hx; obtain ⟨xn, xf, xc, xm, xe⟩ := x; simp only at t0 t1 t2 t3 t4 HNd HPk HS7; obtain ⟨le, hle⟩ : ∃ le, le = xe.length := ⟨_, rfl⟩; have HLe := a_2 hle; rw [← hle] at t4; clear hle; have hag : Below wr.heap.size wr (wr.alloc (.cells #[str xn, .int .i64 xf, str xc, .int .i64 xm, .slice E le ec] 135)) := zX; have hzg : wr.heap.size < (wr.alloc (.cells #[str xn, .int .i64 xf, str xc, .int .i64 xm, .slice E le ec] 135)).heap.size := by simp
    have v0 := (hag.cell (p := ⟨w.heap.size, 0, none⟩) (by show w.heap.size < _; omega)).trans g0; have v4 := (hag.cell (p := ⟨w.heap.size, 4, none⟩) (by show w.heap.size < _; omega)).trans g4; have vf := (hag.cell (p := ⟨w.heap.size + 1, 0, none⟩) (by show w.heap.size + 1 < _; omega)).trans gf; have x0 : (wr.alloc (.cells #[str xn, .int .i64 xf, str xc, .int .i64 xm, .slice E le ec] 135)).cell? ⟨wr.heap.size, 0, none⟩ = some (str xn) := by simp [go_sem]
    have x1 : (wr.alloc (.cells #[str xn, .int .i64 xf, str xc, .int .i64 xm, .slice E le ec] 135)).cell? ⟨wr.heap.size, 1, none⟩ = some (.int .i64 xf) := by simp [go_sem]
    have x2 : (wr.alloc (.cells #[str xn, .int .i64 xf, str xc, .int .i64 xm, .slice E le ec] 135)).cell? ⟨wr.heap.size, 2, none⟩ = some (str xc) := by simp [go_sem]
    have x3 : (wr.alloc (.cells #[str xn, .int .i64 xf, str xc, .int .i64 xm, .slice E le ec] 135)).cell? ⟨wr.heap.size, 3, none⟩ = some (.int .i64 xm) := by simp [go_sem]
    have x4 : (wr.alloc (.cells #[str xn, .int .i64 xf, str xc, .int .i64 xm, .slice E le ec] 135)).cell? ⟨wr.heap.size, 4, none⟩ = some (.slice E le ec) := by simp [go_sem]
    go_wp2
    have hbg : Below w.heap.size w (wr.alloc (.cells #[str xn, .int .i64 xf, str xc, .int .i64 xm, .slice E le ec] 135)) := a_9 hag hbw; have hbl2 : Below w2.heap.size w2 (wr.alloc (.cells #[str xn, .int .i64 xf, str xc, .int .i64 xm, .slice E le ec] 135)) := a_9 hag hbel; generalize wr.alloc (.cells #[str xn, .int .i64 xf, str xc, .int .i64 xm, .slice E le ec] 135) = w3 at *; have hagK := hag; clear g0 g4 gf t0 t1 t2 t3 t4 f0 f4 ff hag hbw hbel; have HCF := a_2 (fun W (hb : Below w3.heap.size w3 W) => show Calls prog 262 #[.slice (some ⟨g1, o1, none⟩) k iC, .func (.func 263) #[] #[a_f wr.heap.size]] W (fun e w' => e = .returned (.bool (decide (xn ∈ (its.take k).map It.name))) ∧ Below W.heap.size W w') from k_C g1 o1 iC k wr.heap.size its xn W (Nat.lt_of_lt_of_le hg1 (a_9 hb hbg).size) hkl hl (fun i hi => HIts.out W (a_9 hb hbg) i hi) (Nat.lt_of_lt_of_le (show wr.heap.size < w3.heap.size by omega) hb.size) ((hb.cell (p := ⟨wr.heap.size, 0, none⟩) y_).trans x0)); have HLx := a_2 (show w3.cell? ⟨wr.heap.size, 4, none⟩ = some (.slice E xe.length ec) from by rw [← HLe.out]; exact x4); have HTh5 := a_2 (fun V (h : Below w3.heap.size w3 V) => i_j wr.heap.size xn V (HW.out.below (a_9 h hbg)) (Nat.lt_of_lt_of_le (show wr.heap.size < w3.heap.size by omega) h.size) ((h.cell (p := ⟨wr.heap.size, 0, none⟩) y_).trans x0))
    have HTh7 := a_2 (fun V (h : Below w3.heap.size w3 V) => i_3 (w.heap.size + 1) wr.heap.size g lb ⟨xn, xf, xc, xm, xe⟩ E ec (own ⟨xn, xf, xc, xm, xe⟩) V (Nat.lt_of_lt_of_le (show w.heap.size + 1 < w3.heap.size by omega) h.size) (Nat.lt_of_lt_of_le (show wr.heap.size < w3.heap.size by omega) h.size)
     ((h.cell (p := ⟨w.heap.size + 1, 0, none⟩) (by show w.heap.size + 1 < _; omega)).trans vf) ((h.cell (p := ⟨wr.heap.size, 0, none⟩) y_).trans x0) ((h.cell (p := ⟨wr.heap.size, 1, none⟩) y_).trans x1) ((h.cell (p := ⟨wr.heap.size, 2, none⟩) y_).trans x2) ((h.cell (p := ⟨wr.heap.size, 3, none⟩) y_).trans x3) ((h.cell (p := ⟨wr.heap.size, 4, none⟩) y_).trans HLx.out)
     eg (fun W hW => HPk.out W (a_9 (a_9 hW h) hbg) (HNd.out.below (a_9 (a_9 hW h) (show Below wr.heap.size wr w3 from hagK)))))
    have HS := a_2 (fun w' (hb : Below w3.heap.size w3 w') => show w'.cell? ⟨w.heap.size, 0, none⟩ = some (.int .i64 op) ∧ w'.cell? ⟨w.heap.size, 4, none⟩ = some (.slice (some ⟨g1, o1, none⟩) its.length iC) ∧ w'.cell? ⟨wr.heap.size, 0, none⟩ = some (str xn) ∧ w'.cell? ⟨wr.heap.size, 1, none⟩ = some (.int .i64 xf) ∧ w'.cell? ⟨wr.heap.size, 2, none⟩ = some (str xc) ∧ w'.cell? ⟨wr.heap.size, 3, none⟩ = some (.int .i64 xm) ∧ w'.cell? ⟨wr.heap.size, 4, none⟩ = some (.slice E le ec) ∧ Below w3.heap.size w3 w' from
     ⟨(hb.cell (p := ⟨w.heap.size, 0, none⟩) (by show w.heap.size < _; omega)).trans v0, (hb.cell (p := ⟨w.heap.size, 4, none⟩) (by show w.heap.size < _; omega)).trans v4, (hb.cell (p := ⟨wr.heap.size, 0, none⟩) y_).trans x0, (hb.cell (p := ⟨wr.heap.size, 1, none⟩) y_).trans x1, (hb.cell (p := ⟨wr.heap.size, 2, none⟩) y_).trans x2, (hb.cell (p := ⟨wr.heap.size, 3, none⟩) y_).trans x3, (hb.cell (p := ⟨wr.heap.size, 4, none⟩) y_).trans x4, hb⟩)
    refine wp_region_held_drew (S := (fun w' => w'.cell? ⟨w.heap.size, 0, none⟩ = some (.int .i64 op) ∧ w'.cell? ⟨w.heap.size, 4, none⟩ = some (.slice (some ⟨g1, o1, none⟩) its.length iC) ∧ w'.cell? ⟨wr.heap.size, 0, none⟩ = some (str xn) ∧ w'.cell? ⟨wr.heap.size, 1, none⟩ = some (.int .i64 xf) ∧ w'.cell? ⟨wr.heap.size, 2, none⟩ = some (str xc) ∧ w'.cell? ⟨wr.heap.size, 3, none⟩ = some (.int .i64 xm) ∧ w'.cell? ⟨wr.heap.size, 4, none⟩ = some (.slice E le ec) ∧ Below w3.heap.size w3 w')) k_ (by (try dsimp only); exact HS.out _ (Below.drew (b_ _ _))) (fun hHeld => ?_); refine zT 0 ?_; refine zT 1 ?_; refine zT 2 ?_; refine zT 3 ?_
    first | (have := k2; refine zK 4 ?_; refine zK 5 ?_; refine zK 6 ?_; refine zK 7 ?_) | (refine zT 4 ?_; refine zT 5 ?_; refine zT 6 ?_; refine zT 7 ?_)
    refine zT 8 ?_; refine zT 10 ?_; refine zT 11 ?_; refine zT 12 ?_; refine zT 19 ?_; refine zT 20 ?_; refine zT 21 ?_; refine zT 33 ?_; refine zT 34 ?_; refine zT 35 ?_; refine zT 42 ?_; refine zT 43 ?_; refine zT 44 ?_; refine zT 45 ?_; refine zT 46 ?_; refine zT 47 ?_; refine zT 50 ?_; refine zR 9 (fun K hK => ?_)
    go_simp
    go_wp2_with (go_at_call 215; refine (c_d _ _ _).mono ?_; rintro e q1 ⟨⟨lb1, v1, rfl, hv1, ht1⟩, hb1⟩; have hq1 := a_9 hb1 (show Below w3.heap.size w3 _ from Below.drew (b_ _ _)); have HT1 := a_2 ht1; have HV1 := a_2 hv1; clear ht1 hv1)
    refine zB hK (HS.out _ hq1) (fun hHeld => ?_); clear hK K; refine zT 13 ?_
    first | (have := k2; refine zT 14 ?_; refine zT 15 ?_; refine zT 16 ?_) | (refine zK 14 ?_; refine zK 15 ?_; refine zK 16 ?_)
    refine zT 17 ?_; refine zR 18 (fun K hK => ?_)
    go_simp
    go_wp2_with (go_at_call 215; refine (c_d _ _ _).mono ?_; rintro e q2 ⟨⟨lb2, v2, rfl, hv2, ht2⟩, hb2⟩; have hq2 := a_9 hb2 (show Below w3.heap.size w3 _ from hq1); have HT2 := a_2 ht2; have HV2 := a_2 hv2; clear ht2 hv2)
    refine zB hK (HS.out _ hq2) (fun hHeld => ?_); clear hK K; refine zT 22 ?_
    first | (have := kg; refine zK 23 ?_; refine zK 24 ?_; refine zK 25 ?_) | (refine zT 23 ?_; refine zT 24 ?_; refine zT 25 ?_)
    refine zT 26 ?_; refine zT 27 ?_
    first | (have := kg; refine zK 28 ?_; refine zK 29 ?_; refine zK 30 ?_) | (have := kw; refine zK 28 ?_; refine zK 29 ?_; refine zK 30 ?_) | (refine zT 28 ?_; refine zT 29 ?_; refine zT 30 ?_)
    refine zT 31 ?_; refine zR 32 (fun K hK => ?_)
    go_simp
    go_wp2_with (go_at_call 215; refine (c_d _ _ _).mono ?_; rintro e q3 ⟨⟨lb3, v3, rfl, hv3, ht3⟩, hb3⟩; have hq3 := a_9 hb3 (show Below w3.heap.size w3 _ from hq2); have HT3 := a_2 ht3; have HV3 := a_2 hv3; clear ht3 hv3)
    refine zB hK (HS.out _ hq3) (fun hHeld => ?_); clear hK K; refine zT 36 ?_
    first | (have := kw; refine zK 37 ?_; refine zK 38 ?_; refine zK 39 ?_) | (refine zT 37 ?_; refine zT 38 ?_; refine zT 39 ?_)
    refine zT 40 ?_; refine zR 41 (fun K hK => ?_)
    go_simp
    go_wp2_with (go_at_call 215; refine (c_d _ _ _).mono ?_; rintro e q4 ⟨⟨lb4, v4, rfl, hv4, ht4⟩, hb4⟩; have hq4 := a_9 hb4 (show Below w3.heap.size w3 _ from hq3); have HT4 := a_2 ht4; have HV4 := a_2 hv4; clear ht4 hv4)
    refine zB hK (HS.out _ hq4) (fun hHeld => ?_); clear hK K; refine zR 48 (fun K hK => ?_)
    go_simp
    go_wp2_with (go_at_call 262; refine (HCF.out _ hq4).mono ?_; rintro e q5 ⟨rfl, hb5⟩; have hq5 := a_9 hb5 hq4)
    refine zB hK (HS.out _ hq5) (fun hHeld => ?_); clear hK K; refine zR 49 (fun K hK => ?_)
    go_simp
    go_wp2_with (go_at_call 215; refine (c_d _ _ _).mono ?_; rintro e q6 ⟨⟨lb6, v6, rfl, hv6, ht6⟩, hb6⟩; have hq6 := a_9 hb6 (show Below w3.heap.size w3 _ from hq5); have HT6 := a_2 ht6; have HV6 := a_2 hv6; clear ht6 hv6)
    refine zB hK (HS.out _ hq6) (fun hHeld => ?_); clear hK K; refine zR 51 (fun K hK => ?_)
    go_simp
    refine zB hK (HS.out _ (hq6.alloc hq6.size _)) (fun hHeld => ?_); clear hK K
    first
     | (have hsh : ((false) || (!List.isEmpty xc) || (xf != 0) || (xm != 0)) = d_Q ⟨xn, xf, xc, xm, xe⟩ fB cB nB eB := (by obtain ⟨_, rfl, rfl, rfl, rfl⟩ := k2.out; have e1 : (xc != []) = !List.isEmpty xc := (by cases xc <;> rfl); have e2 : (xe.length != 0) = decide (0 < le) := (by rw [HLe.out]; cases xe <;> simp); show _ = ((!false && xf != 0) || (!false && xc != []) || (!false && xm != 0) || (!true && xe.length != 0)); rw [e1, e2]; generalize List.isEmpty xc = b1; generalize (xf != 0) = b2; generalize (xm != 0) = b3; generalize decide (0 < le) = b4; cases b1 <;> cases b2 <;> cases b3 <;> cases b4 <;> rfl))
     | (have hsh : ((decide (0 < le)) || (false) || (xf != 0) || (xm != 0)) = d_Q ⟨xn, xf, xc, xm, xe⟩ fB cB nB eB := (by obtain ⟨_, rfl, rfl, rfl, rfl⟩ := kj.out; have e1 : (xc != []) = !List.isEmpty xc := (by cases xc <;> rfl); have e2 : (xe.length != 0) = decide (0 < le) := (by rw [HLe.out]; cases xe <;> simp); show _ = ((!false && xf != 0) || (!true && xc != []) || (!false && xm != 0) || (!false && xe.length != 0)); rw [e1, e2]; generalize List.isEmpty xc = b1; generalize (xf != 0) = b2; generalize (xm != 0) = b3; generalize decide (0 < le) = b4; cases b1 <;> cases b2 <;> cases b3 <;> cases b4 <;> rfl))
     | (have hsh : ((decide (0 < le)) || (false) || (false) || (xm != 0)) = d_Q ⟨xn, xf, xc, xm, xe⟩ fB cB nB eB := (by obtain ⟨_, rfl, rfl, rfl, rfl⟩ := kg.out; have e1 : (xc != []) = !List.isEmpty xc := (by cases xc <;> rfl); have e2 : (xe.length != 0) = decide (0 < le) := (by rw [HLe.out]; cases xe <;> simp); show _ = ((!true && xf != 0) || (!true && xc != []) || (!false && xm != 0) || (!false && xe.length != 0)); rw [e1, e2]; generalize List.isEmpty xc = b1; generalize (xf != 0) = b2; generalize (xm != 0) = b3; generalize decide (0 < le) = b4; cases b1 <;> cases b2 <;> cases b3 <;> cases b4 <;> rfl))
     | (have hsh : ((decide (0 < le)) || (false) || (false) || (false)) = d_Q ⟨xn, xf, xc, xm, xe⟩ fB cB nB eB := (by obtain ⟨_, rfl, rfl, rfl, rfl⟩ := kw.out; have e1 : (xc != []) = !List.isEmpty xc := (by cases xc <;> rfl); have e2 : (xe.length != 0) = decide (0 < le) := (by rw [HLe.out]; cases xe <;> simp); show _ = ((!true && xf != 0) || (!true && xc != []) || (!true && xm != 0) || (!false && xe.length != 0)); rw [e1, e2]; generalize List.isEmpty xc = b1; generalize (xf != 0) = b2; generalize (xm != 0) = b3; generalize decide (0 < le) = b4; cases b1 <;> cases b2 <;> cases b3 <;> cases b4 <;> rfl))
    have hfin : a_o (fun j => (([⟨260, lb1, v1⟩, ⟨260, lb2, v2⟩, ⟨260, lb3, v3⟩, ⟨260, lb4, v4⟩, ⟨261, #[a_f wr.heap.size], a_F xn⟩, ⟨260, lb6, v6⟩, ⟨264, #[a_f (w.heap.size + 1), a_f wr.heap.size], own ⟨xn, xf, xc, xm, xe⟩⟩] : List Thk).map Thk.v).getD j 0) 7 = G k := by
     rw [HGk.out, ← HS7.out _ _ _ _ hsh]; have e1 := HV1.out; have e2 := HV2.out; have e3 := HV3.out; have e4 := HV4.out; have e6 := HV6.out
     try rw [← List.map_take] at e6
     show a_o (fun j => [v1, v2, v3, v4, a_F xn, v6, own ⟨xn, xf, xc, xm, xe⟩].getD j 0) 7 = _
     first | rw [e1, e2, e3, e4, e6] | (simp only [e1, e2, e3, e4, e6])
    have B6 : Below q6.heap.size q6 (q6.alloc (.cells #[.func (.func 260) #[] lb1, .func (.func 260) #[] lb2, .func (.func 260) #[] lb3, .func (.func 260) #[] lb4, .func (.func 261) #[] #[a_f wr.heap.size], .func (.func 260) #[] lb6, .func (.func 264) #[] #[a_f (w.heap.size + 1), a_f wr.heap.size]] 80)) := (b_ _ _).alloc (l_ _) _; have B5 := a_9 B6 hb6; have B4 := a_9 B5 hb5; have B3 := a_9 B4 hb4; have B2 := a_9 B3 hb3; have B1 := a_9 B2 hb2; have B0 := a_9 B6 hq6; have T1 := a_2 (HT1.out.below B1); have T2 := a_2 (HT2.out.below B2); have T3 := a_2 (HT3.out.below B3); have T4 := a_2 (HT4.out.below B4); have T5 := a_2 (HTh5.out _ B0); have T6 := a_2 (HT6.out.below B6); have T7 := a_2 (HTh7.out _ B0)
    have HFst := a_2 (calls_int2 (b_X q6.heap.size 7 [⟨260, lb1, v1⟩, ⟨260, lb2, v2⟩, ⟨260, lb3, v3⟩, ⟨260, lb4, v4⟩, ⟨261, #[a_f wr.heap.size], a_F xn⟩, ⟨260, lb6, v6⟩, ⟨264, #[a_f (w.heap.size + 1), a_f wr.heap.size], own ⟨xn, xf, xc, xm, xe⟩⟩] (q6.alloc (.cells #[.func (.func 260) #[] lb1, .func (.func 260) #[] lb2, .func (.func 260) #[] lb3, .func (.func 260) #[] lb4, .func (.func 261) #[] #[a_f wr.heap.size], .func (.func 260) #[] lb6, .func (.func 264) #[] #[a_f (w.heap.size + 1), a_f wr.heap.size]] 80)) s_ (show (7 : Nat) ≤ 10 from by decide) (fun j h => by
      have h9 : j < 7 := h
      match j, h9 with
      | 0, _ => simp [go_sem]
      | 1, _ => simp [go_sem]
      | 2, _ => simp [go_sem]
      | 3, _ => simp [go_sem]
      | 4, _ => simp [go_sem]
      | 5, _ => simp [go_sem]
      | 6, _ => simp [go_sem]) (fun j h => by
      have h9 : j < 7 := h
      match j, h9 with
      | 0, _ => exact T1.out
      | 1, _ => exact T2.out
      | 2, _ => exact T3.out
      | 3, _ => exact T4.out
      | 4, _ => exact T5.out
      | 5, _ => exact T6.out
      | 6, _ => exact T7.out)) hfin)
    refine zR 52 (fun K hK => ?_)
    go_simp
    go_wp2_with (go_at_call 211; go_loud (refine (HFst.out).mono ?_; rintro e q8 ⟨rfl, hb8⟩; have hq8 := a_9 hb8 B0))
    refine zB hK (HS.out _ hq8) (fun hHeld => ?_); clear hK K; refine zR 53 (fun K hK => ?_)
    go_simp
    refine zB hK (by (try dsimp only); assumption) (fun hHeld => ?_); clear hK K; refine wpAnyH_done k_ ?_ _; clear hfin hsh; generalize G k = gk at *
    by_cases hv : gk = 0
    ·subst hv
     have HR := a_2 (HN.out rfl)
     go_wp2
     exact ⟨⟨k + 1, o_, t_, HR, a_9 hq8 hbl2⟩, w_⟩
    ·have hvb : (gk != 0) = true := by simpa using hv
     have HR := a_2 (HF.out gk rfl hv)
     go_wp2
     go_ret
     exact ⟨a_d HR.out.symm, a_9 hq8 hbg⟩
   ·obtain rfl : k = its.length := by omega
    refine i_2 ?_; intro HR
    go_wp2
    go_ret
    exact ⟨a_d HR.out.symm, a_9 hbel hb2⟩
end Go.Proofs.YtnpjibaolicbmaaGreatDoor
