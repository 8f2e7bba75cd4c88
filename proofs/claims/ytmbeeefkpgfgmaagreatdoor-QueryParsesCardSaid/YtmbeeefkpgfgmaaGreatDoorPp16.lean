/- Parts of the proof. -/
import Derived.Test.YtmbeeefkpgfgmaaGreatDoorPp15
import Derived.Laws.AppendOwnNone
set_option linter.unusedVariables false
set_option linter.unusedSimpArgs false
set_option maxHeartbeats 2000000
namespace Go.Proofs.YtmbeeefkpgfgmaaGreatDoor
open Go.Proofs.Tryz
open Go.RowKit
theorem PSt.gr {T : TypeId} {w w' : World} {P : Nat} {A : Option Addr} {ts : List Tok} {c i d : Nat} {e : Int} {row : Option Nat} (h : PSt T w P A ts c i d e) (hg : w.grownBy w' row) (hr : ∀ j, row = some j → P < j) : PSt T w' P A ts c i d e := by
 have hne : ∀ g o, g ≤ P → some (⟨g, o, none⟩ : Addr).block ≠ row := fun g o hgP e => by have := hr g e.symm; omega
 refine ⟨(hg.block P h.lt (fun e => by have := hr P e.symm; omega)).trans h.blk, ?_, ?_⟩
 ·obtain ⟨g, off, rfl, hP, hc⟩ := h.tok
  refine ⟨g, off, rfl, hP, fun i hi => ?_⟩
  obtain ⟨h1, h2, h3, h4⟩ := hc i hi
  exact ⟨hg.cell h1 (hne _ _ o_), hg.cell h2 (hne _ _ o_), hg.cell h3 (hne _ _ o_), hg.cell h4 (hne _ _ o_)⟩
 ·obtain ⟨h0, b, off, c, hb, h1, h2⟩ := h.wrd
  exact ⟨h0, b, off, c, hb, hg.cell h1 (hne _ _ o_), fun j hj => hg.cell (h2 j hj) (hne _ _ o_)⟩
def LvC (K F l P : Nat) (A : Option Addr) (ts : List Tok) (c : Nat) : Prop := ∀ (W : World) (i d : Nat), PSt XT W P A ts c i d 0 → i < ts.length → d ≤ i → (l = 8 → d_4 ts i = true) → (ts.length - i) * 10 + (9 - l) ≤ F →
 Calls prog K #[.pointer (some ⟨P, 0, none⟩)] W (d_e XT W P A ts c i d (prs ts F l i d))
def ChC (K F l m P : Nat) (A : Option Addr) (ts : List Tok) (c : Nat) : Prop := ∀ (W : World) (i d : Nat) (Lv : Option Addr), PSt XT W P A ts c i d 0 → i < ts.length → d ≤ i → c_t W P Lv m l → (ts.length - i) * 10 + (9 - l) ≤ F →
 Calls prog 287 #[.pointer (some ⟨P, 0, none⟩), .slice Lv m m, .func (.func K) #[.pointer (some ⟨P, 0, none⟩)] #[]] W (d_e XT W P A ts c i d (prs ts F l i d))
set_option maxRecDepth 100000
theorem i_t (F l P : Nat) (A : Option Addr) (ts : List Tok) (c : Nat) (h : LvC 289 F l P A ts c) (h8 : l ≠ 8) : ChC 289 F l 0 P A ts c := by
 intro W i d Lv hS hi hd hL hF
 have HK := a_0 (h W i d hS hi hd (fun e => absurd e h8) hF)
 clear h hS hL
 generalize prs ts F l i d = R at *
 go_enter func287, ntmps287
 go_wp2_with fail
 refine HK.out.mono ?_
 cases R with
 | ok es j =>
  rintro e w1 ⟨hg, ⟨B, n, rfl, ho⟩, hs⟩
  have HO := a_0 ho
  have HS := a_0 hs
  clear ho hs HK
  go_wp2
  go_ret
  exact ⟨hg, ⟨B, n, rfl, HO.out⟩, HS.out⟩
 | err x j =>
  rintro e w1 ⟨hg, es, d', ⟨B, n, rfl, ho⟩, h1, h2, h3, hs⟩
  have HO := a_0 ho
  have HS := a_0 hs
  clear ho hs HK
  go_wp2
  go_ret
  exact ⟨hg, es, d', ⟨B, n, rfl, HO.out⟩, h1, h2, h3, HS.out⟩
 | out => exact fun e w1 ⟨_, h⟩ => h.elim
theorem g_V (F l P : Nat) (A : Option Addr) (ts : List Tok) (c : Nat) (h : LvC 321 F l P A ts c) (h8 : l ≠ 8) : ChC 321 F l 0 P A ts c := by
 intro W i d Lv hS hi hd hL hF
 have HK := a_0 (h W i d hS hi hd (fun e => absurd e h8) hF)
 clear h hS hL
 generalize prs ts F l i d = R at *
 go_enter func287, ntmps287
 go_wp2_with fail
 refine HK.out.mono ?_
 cases R with
 | ok es j =>
  rintro e w1 ⟨hg, ⟨B, n, rfl, ho⟩, hs⟩
  have HO := a_0 ho
  have HS := a_0 hs
  clear ho hs HK
  go_wp2
  go_ret
  exact ⟨hg, ⟨B, n, rfl, HO.out⟩, HS.out⟩
 | err x j =>
  rintro e w1 ⟨hg, es, d', ⟨B, n, rfl, ho⟩, h1, h2, h3, hs⟩
  have HO := a_0 ho
  have HS := a_0 hs
  clear ho hs HK
  go_wp2
  go_ret
  exact ⟨hg, es, d', ⟨B, n, rfl, HO.out⟩, h1, h2, h3, HS.out⟩
 | out => exact fun e w1 ⟨_, h⟩ => h.elim
set_option maxRecDepth 512
theorem a_h {W w w' : World} {r : Option Nat} (h : W.grownBy w r) (hb : Below w.heap.size w w') : W.grownBy w' r := h.trans (a_1 hb)
theorem n_y {x : a_3} (h : n_6 x = true) : x.length ≤ 64 := by
 unfold n_6 at h
 have h := List.contains_iff_mem.1 h
 have : ∀ y ∈ a_l, y.length ≤ 64 := by decide
 exact this x h
theorem d_d {ts : List Tok} (hv : a_O ts = true) {i : Nat} (h : i < ts.length) : (tk ts i).text.length ≤ 64 := by
 have hk := r_R hv h
 unfold Tok.ok at hk
 generalize tk ts i = t at *
 obtain ⟨k, x, n, o⟩ := t
 simp only at hk ⊢
 by_cases h0 : k = 0
 ·subst h0; rw [o_a] at hk; simp at hk; simp [hk.1]
 by_cases h1 : k = 1
 ·subst h1; rw [j_7] at hk; simp only [Bool.and_eq_true] at hk; have := e_7 hk.1; omega
 by_cases h2 : k = 2
 ·subst h2; rw [k_U] at hk; simp at hk; simp [hk.1]
 by_cases h3 : k = 3
 ·subst h3; rw [o_l] at hk; simp at hk; exact hk.1
 by_cases h4 : k = 4
 ·subst h4; rw [o_T] at hk; simp at hk; simp [hk.1]
 by_cases h5 : k = 5
 ·subst h5; rw [j_5] at hk; simp only [Bool.and_eq_true] at hk; exact n_y hk.1
 ·rw [m_8 (by simpa using h0) (by simpa using h1) (by simpa using h2) (by simpa using h3) (by simpa using h4) (by simpa using h5)] at hk; cases hk
theorem a_C {T : TypeId} {W : World} {P : Nat} {A : Option Addr} {ts : List Tok} {c b d : Nat} {r : PR} {e : Ending} {w1 : World} (hf : e_Z ts b r) (h : d_e T W P A ts c b d r e w1) :
  ∃ (B : Option Addr) (n : Nat) (es : List Nd) (j d' : Nat) (x : Int), e = .returned (.slice B es.length n) ∧ w1.ownsRow W.heap.size 116 6 (.slice B es.length n) es.length (a_a es) ∧ PSt T w1 P A ts c j d' x ∧ W.grownBy w1 (some P) ∧ b ≤ j ∧ j < ts.length ∧ es.length ≤ j - b ∧
   ((x = 0 ∧ d' = d ∧ b < j ∧ r = .ok es j) ∨ (x ≠ 0 ∧ r = .err x j ∧ d ≤ d' ∧ d' ≤ j)) := by
 obtain ⟨hg, h⟩ := h
 cases r with
 | ok es j =>
  obtain ⟨⟨B, n, rfl, ho⟩, hs⟩ := h
  exact ⟨B, n, es, j, d, 0, rfl, ho, hs, hg, Nat.le_of_lt hf.1, hf.2.1, hf.2.2.1, .inl ⟨rfl, rfl, hf.1, rfl⟩⟩
 | err x j =>
  obtain ⟨es, d', ⟨B, n, rfl, ho⟩, h1, h2, h3, hs⟩ := h
  exact ⟨B, n, es, j, d', x, rfl, ho, hs, hg, h1, hf.1, h2, .inr ⟨by rcases hf.2 with h | h <;> omega, rfl, h3⟩⟩
 | out => exact h.elim
theorem d_h {w : World} {base e size n c : Nat} {A : Option Addr} {xs : List Value} (h : w.ownsRow base e size (.slice A n c) n xs) : (A = none ∧ n = 0 ∧ c = 0) ∨ ∃ g, A = some ⟨g, 0, none⟩ := by
 rcases h.2 with ⟨hv, hn⟩ | ⟨g, cap, cur, hv, _⟩
 ·injection hv with h1 h2 h3; exact .inl ⟨h1, hn, h3⟩
 ·injection hv with h1; exact .inr ⟨g, h1⟩
theorem k_F {w : World} {base n : Nat} {A : Option Addr} {es fs : List Nd} {o : Int} (h : w.ownsRow base 116 6 (.slice A (es.length + fs.length + 1) n) (es.length + fs.length + 1) (a_a es ++ a_a fs ++ (c_3 o).cells)) :
  w.ownsRow base 116 6 (.slice A (es ++ fs ++ [c_3 o]).length n) (es ++ fs ++ [c_3 o]).length (a_a (es ++ fs ++ [c_3 o])) := by
 have e : a_a (es ++ fs ++ [c_3 o]) = a_a es ++ a_a fs ++ (c_3 o).cells := by rw [b_v, b_v]; simp [a_a]
 rw [e, List.length_append, List.length_append]; exact h
def msr (P : Nat) (ts : List Tok) (w : World) : Nat := match w.cell? ⟨P, 1, none⟩, w.cell? ⟨P, 3, none⟩ with
 | some (.int _ a), some (.int _ e) => 2 * (ts.length - a.toNat) + (if e = 0 then 1 else 0)
 | _, _ => 0
theorem b_D {T : TypeId} {w : World} {P : Nat} {A : Option Addr} {ts : List Tok} {c i d : Nat} {e : Int} (h : PSt T w P A ts c i d e) : msr P ts w = 2 * (ts.length - i) + (if e = 0 then 1 else 0) := by
 obtain ⟨c0, c1, c2, c3⟩ := h.cells
 unfold msr
 rw [c1, c3]
 simp
theorem g_x {ts : List Tok} {F l i d : Nat} (hl : l = 0 ∨ l = 1 ∨ l = 4 ∨ l = 5 ∨ l = 6) : prs ts (F + 1) l i d = (prs ts F (l + 1) i d).bind (b_j (fun j => prs ts F (l + 1) j d) (c_r l) ts ts.length) := by
 rcases hl with rfl | rfl | rfl | rfl | rfl <;> rfl
set_option maxRecDepth 100000
theorem d_R (K F l m P : Nat) (A : Option Addr) (ts : List Tok) (c : Nat) (hv : a_O ts = true) (hlen : ts.length ≤ 1000000) (hlv : l = 0 ∨ l = 1 ∨ l = 4 ∨ l = 5 ∨ l = 6) (IH : ChC K F (l + 1) m P A ts c) : ChC K (F + 1) l (m + 1) P A ts c := by
 intro W i d Lv hS hi hd hL hF
 have hne := e_n hv (F + 1) l i d hi o_ (fun e => absurd e o_) hF
 rw [g_x hlv] at hne ⊢
 have hfact := fun j (hj : j < ts.length) => b_6 hv F (l + 1) j d hj (fun e => absurd e o_)
 have hP := hS.lt
 have hL' := hL
 rcases hL with h | ⟨g, off, rfl, hPg, hgs, hc⟩
 ·cases h
 have HL := a_0 hL'
 have HI := a_0 IH
 have HFa := a_0 hfact
 obtain ⟨LV, hLV⟩ : ∃ LV : Option Addr, (m = 0 ∧ LV = some ⟨g, off, none⟩) ∨ (0 < m ∧ LV = some ⟨g, off + 2, none⟩) := by
  rcases Nat.eq_zero_or_pos m with h | h
  ·exact ⟨_, .inl ⟨h, rfl⟩⟩
  ·exact ⟨_, .inr ⟨h, rfl⟩⟩
 have HTl := a_0 (show ∀ W', c_t W' P (some ⟨g, off, none⟩) (m + 1) l → c_t W' P LV m (l + 1) from fun W' h => by
  rcases hLV with ⟨h0, _⟩ | ⟨_, rfl⟩
  ·exact .inl h0
  ·exact h.tail)
 have HC1 := a_0 (IH W i d LV hS hi hd (HTl.out W hL') o_)
 clear IH hfact hL' hS hc
 generalize hq : (fun j => prs ts F (l + 1) j d) = q at *
 have HQ := a_0 hq
 have hf0 := HFa.out i hi
 generalize hr0 : prs ts F (l + 1) i d = r0 at *
 clear hr0
 generalize hR : r0.bind (b_j q (c_r l) ts ts.length) = R at *
 have HR := a_0 hR
 clear hq hR
 have HStart := a_0 (show ∀ e w1, d_e XT W P A ts c i d r0 e w1 → ∃ (B : Option Addr) (n : Nat) (es : List Nd) (j d' : Nat) (x : Int), e = .returned (.slice B es.length n) ∧ Hid (w1.ownsRow W.heap.size 116 6 (.slice B es.length n) es.length (a_a es)) ∧ Hid (PSt XT w1 P A ts c j d' x) ∧ Hid (W.grownBy w1 (some P)) ∧ i ≤ j ∧ j < ts.length ∧ es.length ≤ j - i ∧ Hid ((x = 0 ∧ d' = d ∧ i < j ∧ ∃ G, b_j q (c_r l) ts G es j = R) ∨ (x ≠ 0 ∧ R = .err x j ∧ d ≤ d' ∧ d' ≤ j)) from by
  have hr := HR.out
  rintro e w1 ⟨hg, h⟩
  cases r0 with
  | ok es j =>
   obtain ⟨⟨B, n, rfl, ho⟩, hs⟩ := h; exact ⟨B, n, es, j, d, 0, rfl, a_0 ho, a_0 hs, a_0 hg, Nat.le_of_lt hf0.1, hf0.2.1, hf0.2.2.1, a_0 (.inl ⟨rfl, rfl, hf0.1, _, hr⟩)⟩
  | err x j =>
   obtain ⟨es, d', ⟨B, n, rfl, ho⟩, h1, h2, h3, hs⟩ := h; exact ⟨B, n, es, j, d', x, rfl, a_0 ho, a_0 hs, a_0 hg, h1, hf0.1, h2, a_0 (.inr ⟨by rcases hf0.2 with h | h <;> omega, hr.symm, h3⟩)⟩
  | out => exact h.elim)
 clear HR hf0
 rcases hLV with ⟨rfl, rfl⟩ | ⟨hm, rfl⟩
 all_goals
  go_enter func287, ntmps287
  go_wp2_with fail
  refine HC1.out.mono ?_
  intro e0 w1 h0
  obtain ⟨B, n, es, j, d', x, rfl, HO, HS, HG, hij, hjl, hel, HD⟩ := HStart.out _ _ h0
  clear h0 HStart HC1
  go_wp2
  go_loopw [7] (fun s wr => ∃ (B : Option Addr) (n : Nat) (es : List Nd) (j d' : Nat) (x : Int), s = .slice B es.length n ∧ Hid (wr.ownsRow W.heap.size 116 6 (.slice B es.length n) es.length (a_a es)) ∧ Hid (PSt XT wr P A ts c j d' x) ∧ Hid (W.grownBy wr (some P)) ∧ i ≤ j ∧ j < ts.length ∧ es.length ≤ j - i ∧ Hid ((x = 0 ∧ d' = d ∧ i < j ∧ ∃ G, b_j q (c_r l) ts G es j = R) ∨ (x ≠ 0 ∧ R = .err x j ∧ d ≤ d' ∧ d' ≤ j))) (fun _ wr => msr P ts wr)
  case atStart => exact ⟨B, n, es, j, d', x, rfl, HO, HS, HG, hij, hjl, hel, HD⟩
  case round =>
   clear HO HS HG hij hjl hel HD; obtain ⟨B, n, es, j, d', x, rfl, HO, HS, HG, hij, hjl, hel, HD⟩ := hrel; obtain ⟨c0, c1, c2, c3⟩ := HS.out.cells; have hPr := HS.out.lt
   by_cases hx : x = 0
   ·rcases HD.out with ⟨_, hdd, hij2, G, hG⟩ | ⟨h, _⟩
    rotate_left
    ·exact absurd hx h
    subst hx hdd; obtain ⟨gt, ot, rfl, hgt, t0, t1, t2, t3⟩ := HS.out.tok.at_ hjl; have htl := d_d hv hjl; have hgt2 : gt < wr.heap.size := Nat.lt_trans hgt hPr
    rcases HL.out.fr HG.out with h | ⟨g', off', he, _, hgs2, hc2⟩
    ·cases h
    injection he with he; injection he with he1 he2; subst he1 he2; obtain ⟨l0, Bm, nm, l1, hBm, hom⟩ := hc2 0 o_; clear hc2; simp only [Nat.zero_mul, Nat.add_zero] at l0 l1 hom; have hBs := hom.lt; have hlk := fun (o : Obj) (k : Nat) => r_9 hlv (show ((wr.alloc o).drewN k).ownsMap prog 9 (plainElem prog 3) Bm nm (lvD l) from hom.alloc o) (tk ts j).text x_; have hop := s_R l (tk ts j) hlv
    have hG2 : (match c_r l (tk ts j) with
     | none => PR.ok es j
     | some o => (q (j + 1)).bind fun fs k => b_j q (c_r l) ts (G - 1) (es ++ fs ++ [c_3 o]) k) = R := by
     cases G with
     | zero => exact absurd hG.symm hne
     | succ G => exact hG
    clear hG hom; rw [hop] at hG2; clear hop; have hnx := fun (h : (tk ts j).kind ≠ 0) => b_0 hv hjl h; generalize tk ts j = t at *; obtain ⟨tk0, tk1, tk2, tk3⟩ := t; simp only at t0 t1 t2 t3 htl hlk hG2 hnx
    by_cases hk : tk0 = lk l
    ·subst hk
     rw [if_pos rfl] at hG2
     rcases hop : opT l tk1 with _ | o
     ·rw [hop] at hlk hG2
      simp only at hG2; simp only [Option.getD_none, Option.isSome_none] at hlk; have HE := a_0 hG2; clear hG2 hnx; generalize lk l = kd at *
      go_wp2
      go_region
      go_wp2
      go_big_quiet (fail)
      go_wp2
      go_big_quiet (fail)
      go_wp2
      go_ret
      rw [← HE.out]; exact ⟨a_h HG.out zX, ⟨B, n, rfl, a_8 HO.out zX⟩, HS.out.below zX⟩
     ·rw [hop] at hlk hG2
      simp only at hG2; simp only [Option.getD_some, Option.isSome_some] at hlk; have HE := a_0 hG2; have hj1 := hnx (by unfold lk; split <;> decide); clear hG2 hnx hop; have HQ1 : prs ts F (l + 1) (j + 1) d' = q (j + 1) := congrFun HQ.out (j + 1); have hff := HFa.out (j + 1) hj1
      have HCal := a_0 (show ∀ W' : World, Below wr.heap.size wr W' → Calls prog 287 _ (W'.setCell ⟨P, 1, none⟩ (.int .i64 ((j + 1 : Nat) : Int))) (fun e2 w2 => ∃ (B2 : Option Addr) (n2 : Nat) (fs : List Nd) (k d2 : Nat) (x2 : Int), e2 = .returned (.slice B2 fs.length n2) ∧ (∃ b2, w2.ownsRow b2 116 6 (.slice B2 fs.length n2) fs.length (a_a fs)) ∧ PSt XT w2 P (some ⟨gt, ot, none⟩) ts c k d2 x2 ∧ wr.grownBy w2 (some P) ∧ j + 1 ≤ k ∧ k < ts.length ∧ fs.length ≤ k - (j + 1) ∧
        ((x2 = 0 ∧ d2 = d' ∧ j + 1 < k ∧ q (j + 1) = .ok fs k) ∨ (x2 ≠ 0 ∧ q (j + 1) = .err x2 k ∧ d' ≤ d2 ∧ d2 ≤ k))) from fun W' hb =>
       (HI.out (W'.setCell ⟨P, 1, none⟩ (.int .i64 ((j + 1 : Nat) : Int))) (j + 1) d' _ ((HS.out.below hb).setAt (j + 1)) hj1 o_ (HTl.out _ (HL.out.fr (a_d (a_h HG.out hb) _ _))) o_).mono fun e2 w2 h => by
        obtain ⟨B2, n2, fs, k, d2, x2, h1, h2, h3, h4, h5, h6, h7, h8⟩ := a_C hff h; rw [HQ1] at h8
        exact ⟨B2, n2, fs, k, d2, x2, h1, ⟨_, h2⟩, h3, (a_d (a_1 hb) 1 _).trans h4, h5, h6, h7, h8⟩)
      clear hff; have hfr := HS.out.free; generalize lk l = kd at *
      go_wp2
      go_region
      go_wp2
      go_big_quiet (fail)
      go_wp2
      go_big_quiet (fail)
      go_wp2_with fail
      refine (HCal.out _ zX).mono ?_; rintro e2 w2 ⟨B2, n2, fs, k, d2, x2, rfl, ⟨b2, ho2⟩, hS2, hg2, hjk, hkl, hfl, hD2⟩; have hoe : w2.ownsRow W.heap.size 116 6 (.slice B es.length n) es.length (a_a es) := a_v HO.out hg2 hP; have hWw : W.heap.size ≤ wr.heap.size := HG.out.size; have hgw := hg2.size; have HS2 := a_0 hS2; have HG2 := a_0 (HG.out.trans hg2); have HD2 := a_0 hD2; clear hS2 hD2 hg2; refine _ag ?_; intro i0 hi0 hz0 hz1 hz2
      rcases d_h ho2 with ⟨rfl, hf0, rfl⟩ | ⟨g2, rfl⟩
      ·obtain rfl : fs = [] := List.eq_nil_of_length_eq_zero hf0
       clear ho2 hf0; simp only [List.length_nil] at *
       go_wp2_with (first
        | (at_builtin; refine wpList_append_own_none rfl _ _ _ rfl _ 116 i0 6 underlying25 hi0 _ _ _ rfl hoe rfl ?_)
        | (at_builtin; refine wpList_append_own _ rfl _ _ 25 rfl W.heap.size 116 i0 _ 6 64 underlying25 hi0 hz0 hz1 hz2 rfl d_ _ _ _ rfl (hoe.alloc _) ⟨w2.heap.size, 0, none⟩ 1 1 [.int .i64 o, .int .i64 0, .int .i64 0, str [], str [], .int .i64 0] rfl rfl (by exact b_h (heap_alloc_new _ _)) c_ x_ o_ m_ ?_; intro v4 w4 o4 g4 _; obtain ⟨B4, n4, rfl⟩ := a_i o4; have HS4 := a_0 ((HS2.out.below (Below.alloc (b_ _ _) (l_ _) _)).gr g4 (fun j hj => Nat.lt_of_lt_of_le hP (hoe.lt j hj).1)); have HG4 := a_0 ((a_h HG2.out (Below.alloc (b_ _ _) (l_ _) _)).andThen g4 (fun j hj => .inl (hoe.lt j hj).1)); have HO4 := a_0 o4; clear o4 g4))
       have OWNF := k_F (es := es) (fs := []) (o := o) (n := n4) (A := B4) (w := w4) (base := W.heap.size) (by rw [List.length_nil, Nat.add_zero, show a_a [] = [] from rfl, List.append_nil]; exact HO4.out); have hl4 := HS4.out; refine ⟨⟨B4, n4, es ++ [] ++ [c_3 o], k, d2, x2, by first | rfl | (simp; done) | (simp; omega), a_0 OWNF, HS4, HG4, o_, hkl, m_, a_0 ?_⟩, ?_⟩
       ·rcases HD2.out with ⟨e1, e2, e3, e4⟩ | ⟨e1, e4, e5⟩
        ·refine .inl ⟨e1, e2, o_, G - 1, ?_⟩
         have hE := HE.out; exact p_2
        ·refine .inr ⟨e1, ?_, e5⟩
         have hE := HE.out; exact p_4
       ·rw [b_D hl4, b_D HS.out]
        split <;> simp <;> omega
      ·have hcf := (b_q ho2).2.2
       clear ho2
       go_wp2_with (first
        | (at_builtin; refine wpList_append_own _ rfl _ _ 25 rfl W.heap.size 116 i0 _ 6 64 underlying25 hi0 hz0 hz1 hz2 rfl d_ _ _ _ rfl hoe ⟨g2, 0, none⟩ fs.length n2 (a_a fs) rfl (b_4 _) hcf (e_d _) x_ o_ o_ ?_; intro v3 w3 o3 g3 _; obtain ⟨B3, n3, rfl⟩ := a_i o3; have HS3 := a_0 (HS2.out.gr g3 (fun j hj => Nat.lt_of_lt_of_le hP (hoe.lt j hj).1)); have HG3 := a_0 (HG2.out.andThen g3 (fun j hj => .inl (hoe.lt j hj).1)); have hz3 := g3.size; clear hcf g3)
        | (at_builtin; refine wpList_append_own _ rfl _ _ 25 rfl W.heap.size 116 i0 _ 6 64 underlying25 hi0 hz0 hz1 hz2 rfl d_ _ _ _ rfl (o3.alloc _) ⟨w3.heap.size, 0, none⟩ 1 1 [.int .i64 o, .int .i64 0, .int .i64 0, str [], str [], .int .i64 0] rfl rfl (by exact b_h (heap_alloc_new _ _)) c_ x_ o_ m_ ?_; intro v4 w4 o4 g4 _; obtain ⟨B4, n4, rfl⟩ := a_i o4; have HS4 := a_0 ((HS3.out.below (Below.alloc (b_ _ _) (l_ _) _)).gr g4 (fun j hj => Nat.lt_of_lt_of_le hP (o3.lt j hj).1)); have HG4 := a_0 ((a_h HG3.out (Below.alloc (b_ _ _) (l_ _) _)).andThen g4 (fun j hj => .inl (o3.lt j hj).1)); have HO4 := a_0 o4; clear o4 g4))
       have OWNF := k_F (es := es) (fs := fs) (o := o) (n := n4) (A := B4) (w := w4) (base := W.heap.size) HO4.out; have hl4 := HS4.out; refine ⟨⟨B4, n4, es ++ fs ++ [c_3 o], k, d2, x2, by first | rfl | (simp; done) | (simp; omega), a_0 OWNF, HS4, HG4, o_, hkl, m_, a_0 ?_⟩, ?_⟩
       ·rcases HD2.out with ⟨e1, e2, e3, e4⟩ | ⟨e1, e4, e5⟩
        ·refine .inl ⟨e1, e2, o_, G - 1, ?_⟩
         have hE := HE.out; exact p_2
        ·refine .inr ⟨e1, ?_, e5⟩
         have hE := HE.out; exact p_4
       ·rw [b_D hl4, b_D HS.out]
        split <;> simp <;> omega
    ·have hkn : (tk0 != lk l) = true := by simpa using hk
     rw [if_neg hk] at hG2; simp only at hG2; have HE := a_0 hG2; clear hG2 hnx hk; generalize lk l = kd at *; generalize (opT l tk1).getD 0 = ov at *; generalize (opT l tk1).isSome = bv at *
     go_wp2
     go_region
     go_wp2
     go_big_quiet (fail)
     go_wp2
     go_big_quiet (fail)
     all_goals go_wp2
     all_goals go_ret
     all_goals rw [← HE.out]
     all_goals exact ⟨a_h HG.out zX, ⟨B, n, rfl, a_8 HO.out zX⟩, HS.out.below zX⟩
   ·have hxb : (x == 0) = false := beq_eq_false_iff_ne.2 hx
    rcases HD.out with ⟨h, _⟩ | ⟨_, hE, hdE⟩
    ·exact absurd h hx
    have HE := a_0 hE; clear hE
    go_wp2
    go_ret
    rw [HE.out]; exact ⟨HG.out, es, d', ⟨B, n, rfl, HO.out⟩, hij, hel, hdE, HS.out⟩
set_option maxRecDepth 512
theorem d_e.ret {T : TypeId} {W : World} {P : Nat} {A : Option Addr} {ts : List Tok} {c b d : Nat} {r : PR} {e : Ending} {w1 : World} (h : d_e T W P A ts c b d r e w1) : ∃ v, e = .returned v := by
 obtain ⟨hg, h⟩ := h
 cases r with
 | ok es j => obtain ⟨⟨B, n, rfl, ho⟩, hs⟩ := h; exact ⟨_, rfl⟩
 | err x j => obtain ⟨es, d', ⟨B, n, rfl, ho⟩, _⟩ := h; exact ⟨_, rfl⟩
 | out => exact h.elim
theorem d_e.up {T : TypeId} {W w : World} {P : Nat} {A : Option Addr} {ts : List Tok} {c b d : Nat} {r : PR} {e : Ending} {w1 : World} (h : d_e T w P A ts c b d r e w1) (hg : W.grownBy w (some P)) : d_e T W P A ts c b d r e w1 := by
 obtain ⟨hg1, h⟩ := h
 refine ⟨hg.trans hg1, ?_⟩
 cases r with
 | ok es j => obtain ⟨⟨B, n, rfl, ho⟩, hs⟩ := h; exact ⟨⟨B, n, rfl, a_Z ho hg.size⟩, hs⟩
 | err x j => obtain ⟨es, d', ⟨B, n, rfl, ho⟩, h1, h2, h3, hs⟩ := h; exact ⟨es, d', ⟨B, n, rfl, a_Z ho hg.size⟩, h1, h2, h3, hs⟩
 | out => exact h.elim
theorem s_H (ts : List Tok) (F i d : Nat) : prs ts (F + 1) 2 i d = if c_k (tk ts i) j_j = true then
  if 256 < d then .err 2 i else (prs ts F 2 (i + 1) (d + 1)).bind fun es j => .ok (es ++ [c_3 2]) j
 else prs ts F 3 i d := rfl
theorem q_W (ts : List Tok) (F i d : Nat) : prs ts (F + 1) 7 i d = if d_4 ts i = false then .err 3 i
 else if 256 < d then .err 2 i
 else if a_9 (tk ts i) [45] = true then
  if (tk ts (i + 1)).kind = 2 then .ok [cNd 2 (-(tk ts (i + 1)).num) []] (i + 2)
  else (prs ts F 7 (i + 1) (d + 1)).bind fun es j => .ok (es ++ [c_3 3]) j
 else prs ts F 8 i d := rfl
theorem v_f (ts : List Tok) (F i d : Nat) : prs ts (F + 1) 8 i d = if (tk ts i).kind = 2 then .ok [cNd 2 (tk ts i).num []] (i + 1)
 else if (tk ts i).kind = 3 then .ok [cNd 3 0 (tk ts i).text] (i + 1)
 else if (tk ts i).kind = 4 then .ok [cNd 4 (tk ts i).num []] (i + 1)
 else if (tk ts i).kind = 5 then (prs ts F 0 (i + 1) (d + 1)).bind fun es j => if a_9 (tk ts j) [41] = true then .ok es (j + 1) else .err 3 j
 else if (tk ts i).text = d_K then .ok [cNd 0 0 []] (i + 1)
 else if (tk ts i).text = d_I then .ok [cNd 1 1 []] (i + 1)
 else if (tk ts i).text = c_o then .ok [cNd 1 0 []] (i + 1)
 else if a_9 (tk ts (i + 1)) [40] = true then e_G (fun l i d => prs ts F l i d) ts (tk ts i).text (i + 2) (d + 1)
 else .ok [⟨1, vl0, (tk ts i).text, 0⟩] (i + 1) := rfl
theorem d_5 {w : World} {base n : Nat} {A : Option Addr} {es : List Nd} {nd : Nd} (h : w.ownsRow base 116 6 (.slice A (es.length + 1) n) (es.length + 1) (a_a es ++ nd.cells)) :
  w.ownsRow base 116 6 (.slice A (es ++ [nd]).length n) (es ++ [nd]).length (a_a (es ++ [nd])) := by
 have e : a_a (es ++ [nd]) = a_a es ++ nd.cells := by rw [b_v]; simp [a_a]
 rw [e, List.length_append]; exact h
set_option maxRecDepth 100000
theorem w_U (F P : Nat) (A : Option Addr) (ts : List Tok) (c : Nat) (h : ChC 289 F 0 2 P A ts c) : LvC 267 F 0 P A ts c := by
 intro W i d hS hi hd _ hF
 have hP := hS.lt
 have HS := a_0 hS
 have HH := a_0 h
 clear hS h
 refine p_0 ?_; intro hmf
 go_enter func267, ntmps267
 go_wp2_with fail
 refine (n_M P W hP).mono ?_
 rintro e w1 ⟨⟨Lv, rfl, hL⟩, hb1⟩
 have HL := a_0 hL
 clear hL
 go_wp2_with fail
 refine (HH.out w1 i d Lv (HS.out.below hb1) hi hd HL.out hF).mono ?_
 intro e2 w2 h2
 obtain ⟨v, rfl⟩ := h2.ret
 have HR := a_0 (h2.up (a_1 hb1))
 clear h2
 go_wp2
 exact p_f
theorem v_d (F P : Nat) (A : Option Addr) (ts : List Tok) (c : Nat) (hv : a_O ts = true) (hlen : ts.length ≤ 1000000) (hN : LvC 289 F 2 P A ts c) (hC : LvC 306 F 3 P A ts c) : LvC 289 (F + 1) 2 P A ts c := by
 intro W i d hS hi hd _ hF
 rw [s_H]
 have hP := hS.lt
 have HI := a_0 (k_w W P A ts c i d 0 hS hi hlen 1 j_j)
 have HS := a_0 hS
 have HN := a_0 hN
 have HC := a_0 hC
 clear hS hN hC
 by_cases hw : c_k (tk ts i) j_j = true
 ·rw [if_pos hw]
  have hi1 := d_Q hv hi hw
  have hb : ((tk ts i).kind == 1 && (tk ts i).text == j_j) = true := hw
  rw [hb] at HI
  clear hb hw
  by_cases hd2 : 256 < d
  ·rw [if_pos hd2]
   have HFl := a_0 (fun W' (hb : Below W.heap.size W W') => d_T W' P A ts c i d (HS.out.below hb) 2); unfold j_j at *
   go_enter func289, ntmps289
   go_wp2_with fail
   refine HI.out.mono ?_; rintro e w1 ⟨rfl, hb1⟩; obtain ⟨c0, c1, c2, c3⟩ := (HS.out.below hb1).cells; have hP1 := (HS.out.below hb1).lt
   go_wp2_with fail
   refine (HFl.out w1 hb1).mono ?_; rintro e w2 ⟨rfl, hS2, hg2⟩; have HS2 := a_0 hS2; clear hS2
   go_wp2
   exact s_D
  ·rw [if_neg hd2]
   have hff := b_6 hv F 2 (i + 1) (d + 1) hi1 (fun e => absurd e o_)
   have HCal := a_0 (show ∀ W' : World, Below W.heap.size W W' → Calls prog 289 _ ((W'.setCell ⟨P, 1, none⟩ (.int .i64 ((i + 1 : Nat) : Int))).setCell ⟨P, 2, none⟩ (.int .i64 ((d + 1 : Nat) : Int))) (fun e2 w2 => ∃ (B2 : Option Addr) (n2 : Nat) (fs : List Nd) (k d3 : Nat) (x2 : Int), e2 = .returned (.slice B2 fs.length n2) ∧ w2.ownsRow W.heap.size 116 6 (.slice B2 fs.length n2) fs.length (a_a fs) ∧ PSt XT w2 P A ts c k (d3 + 1) x2 ∧ W.grownBy w2 (some P) ∧ i + 1 ≤ k ∧ k < ts.length ∧ fs.length ≤ k - (i + 1) ∧
     ((x2 = 0 ∧ d3 = d ∧ i + 1 < k ∧ prs ts F 2 (i + 1) (d + 1) = .ok fs k) ∨ (x2 ≠ 0 ∧ prs ts F 2 (i + 1) (d + 1) = .err x2 k ∧ d ≤ d3 ∧ d3 ≤ k))) from fun W' hb =>
    (HN.out _ (i + 1) (d + 1) (((HS.out.below hb).setAt (i + 1)).setDepth (d + 1)) hi1 o_ (fun e => absurd e o_) o_).mono fun e2 w2 h => by
     obtain ⟨B2, n2, fs, k, d2, x2, h1, h2, h3, h4, h5, h6, h7, h8⟩ := a_C hff h; have hgg := a_d (a_d (a_1 (r := some P) hb) 1 (.int .i64 ((i + 1 : Nat) : Int))) 2 (.int .i64 ((d + 1 : Nat) : Int)); obtain ⟨d3, rfl⟩ : ∃ d3, d2 = d3 + 1 := ⟨d2 - 1, by rcases h8 with h8 | h8 <;> omega⟩
     exact ⟨B2, n2, fs, k, d3, x2, h1, a_Z h2 hgg.size, h3, hgg.trans h4, h5, h6, h7, by rcases h8 with ⟨q1, q2, q3, q4⟩ | ⟨q1, q2, q3⟩; exact .inl ⟨q1, o_, q3, q4⟩; exact .inr ⟨q1, q2, o_, o_⟩⟩)
   clear hff; generalize prs ts F 2 (i + 1) (d + 1) = r at *; refine _ag ?_; intro i0 hi0 hz0 hz1 hz2; unfold j_j at *
   go_enter func289, ntmps289
   go_wp2_with fail
   refine HI.out.mono ?_; rintro e w1 ⟨rfl, hb1⟩; obtain ⟨c0, c1, c2, c3⟩ := (HS.out.below hb1).cells; have hP1 := (HS.out.below hb1).lt; have hfr := (HS.out.below hb1).free
   go_wp2_with fail
   refine (HCal.out w1 hb1).mono ?_; rintro e2 w2 ⟨B2, n2, fs, k, d3, x2, rfl, ho2, hS2, hg2, hjk, hkl, hfl, hD2⟩; refine r_T ?_; intro hd3; have HS2 := a_0 hS2; have HG2 := a_0 hg2; have HD2 := a_0 hD2; have hgs := hg2.size; clear hS2 hg2 hD2 c0 c1 c2 c3 hfr hP1 HCal
   go_wp2_with (at_builtin; refine wpList_append_own _ rfl _ _ 25 rfl W.heap.size 116 i0 _ 6 64 underlying25 hi0 hz0 hz1 hz2 rfl d_ _ _ _ rfl (ho2.alloc _) ⟨w2.heap.size, 0, none⟩ 1 1 [.int .i64 2, .int .i64 0, .int .i64 0, str [], str [], .int .i64 0] rfl rfl (by exact b_h (heap_alloc_new _ _)) c_ x_ o_ m_ ?_; intro v4 w4 o4 g4 _; obtain ⟨B4, n4, rfl⟩ := a_i o4; have HS4 := a_0 ((HS2.out.below (Below.alloc (b_ _ _) (l_ _) _)).gr g4 (fun j hj => Nat.lt_of_lt_of_le hP (ho2.lt j hj).1)); have HG4 := a_0 ((a_h HG2.out (Below.alloc (b_ _ _) (l_ _) _)).andThen g4 (fun j hj => .inl (ho2.lt j hj).1)); have HO4 := a_0 o4; clear o4 g4; obtain ⟨k0, k1, k2, k3⟩ := HS4.out.cells; have kf := HS4.out.free; have kP := HS4.out.lt)
   have HO5 := a_0 (a_v (d_5 (nd := c_3 2) HO4.out) (a_d (g_ w4 (some P)) 2 (.int .i64 (d3 : Int))) hP); have HS5 := a_0 (HS4.out.setDepth d3); have HG5 := a_0 (a_d HG4.out 2 (.int .i64 (d3 : Int))); clear k0 k1 k2 k3 kf
   go_ret
   rcases HD2.out with ⟨e1, e2, e3, e4⟩ | ⟨e1, e4, e5⟩
   ·rw [e4]
    subst e1 e2; exact ⟨HG5.out, ⟨B4, n4, v_, HO5.out⟩, HS5.out⟩
   ·rw [e4]
    exact ⟨HG5.out, fs ++ [c_3 2], d3, ⟨B4, n4, v_, HO5.out⟩, o_, by simp only [List.length_append, List.length_singleton]; omega, e5, HS5.out⟩
 ·rw [if_neg hw]
  have hb : ((tk ts i).kind == 1 && (tk ts i).text == j_j) = false := by
   have : c_k (tk ts i) j_j = false := by simpa using hw
   exact this
  rw [hb] at HI
  clear hb hw
  unfold j_j at *
  go_enter func289, ntmps289
  go_wp2_with fail
  refine HI.out.mono ?_
  rintro e w1 ⟨rfl, hb1⟩
  go_wp2_with fail
  refine (HC.out w1 i d (HS.out.below hb1) hi hd o_ o_).mono ?_
  intro e2 w2 h2
  obtain ⟨v, rfl⟩ := h2.ret
  have HR := a_0 (h2.up (a_1 hb1))
  clear h2
  go_wp2
  exact p_f
set_option maxRecDepth 512
theorem q_O {ts : List Tok} (hv : a_O ts = true) {i : Nat} (h : i < ts.length) (hk : (tk ts i).kind = 2) : 0 ≤ (tk ts i).num ∧ (tk ts i).num ≤ 1073741824 := by
 have := r_R hv h
 unfold Tok.ok at this
 rw [hk, k_U] at this
 simp only [Bool.and_eq_true, decide_eq_true_eq] at this
 exact this.2
set_option maxRecDepth 100000
theorem r_e (F P : Nat) (A : Option Addr) (ts : List Tok) (c : Nat) (hv : a_O ts = true) (hlen : ts.length ≤ 1000000) (hU : LvC 321 F 7 P A ts c) (hPr : LvC 332 F 8 P A ts c) : LvC 321 (F + 1) 7 P A ts c := by
 intro W i d hS hi hd _ hF
 rw [q_W]
 have hP := hS.lt
 have HB := a_0 (q_b W P A ts c i d 0 hS hv hi hlen)
 obtain ⟨c0, c1, c2, c3⟩ := hS.cells
 have HS := a_0 hS
 have HU := a_0 hU
 have HPr := a_0 hPr
 clear hS hU hPr
 by_cases hb : d_4 ts i = false
 ·rw [if_pos hb]
  rw [hb] at HB
  clear hb
  have HFl := a_0 (fun W' (hb : Below W.heap.size W W') => d_T W' P A ts c i d (HS.out.below hb) 3)
  go_enter func321, ntmps321
  go_wp2_with fail
  refine HB.out.mono ?_
  rintro e w1 ⟨rfl, hb1⟩
  go_wp2_with fail
  refine (HFl.out w1 hb1).mono ?_
  rintro e w2 ⟨rfl, hS2, hg2⟩
  have HS2 := a_0 hS2
  clear hS2
  go_wp2
  exact s_D
 rw [if_neg hb]
 have hbt : d_4 ts i = true := by simpa using hb
 rw [hbt] at HB
 have hi1 := b_0 hv hi (d_j hbt)
 clear hb
 by_cases hd2 : 256 < d
 ·rw [if_pos hd2]
  have HFl := a_0 (fun W' (hb : Below W.heap.size W W') => d_T W' P A ts c i d (HS.out.below hb) 2)
  have HCl := a_0 (fun W' (hb : Below W.heap.size W W') => (HS.out.below hb).cells)
  go_enter func321, ntmps321
  go_wp2_with fail
  refine HB.out.mono ?_
  rintro e w1 ⟨rfl, hb1⟩
  obtain ⟨k0, k1, k2, k3⟩ := HCl.out w1 hb1
  go_wp2_with fail
  refine (HFl.out w1 hb1).mono ?_
  rintro e w2 ⟨rfl, hS2, hg2⟩
  have HS2 := a_0 hS2
  clear hS2 k0 k1 k2 k3
  go_wp2
  exact s_D
 rw [if_neg hd2]
 have HCl := a_0 (fun W' (hb : Below W.heap.size W W') => (HS.out.below hb).cells)
 by_cases hm : a_9 (tk ts i) [45] = true
 rotate_left
 ·rw [if_neg hm]
  have hmb : ((0 : Int) == 0 && ((tk ts i).kind == 5 && (tk ts i).text == [45])) = false := by
   have : a_9 (tk ts i) [45] = false := by simpa using hm
   exact this
  have HSk := a_0 (fun W' (hb : Below W.heap.size W W') => b_c W' P A ts c i d 0 (HS.out.below hb) hi hlen 5 [45] hmb)
  clear hmb hm
  go_enter func321, ntmps321
  go_wp2_with fail
  refine HB.out.mono ?_
  rintro e w1 ⟨rfl, hb1⟩
  obtain ⟨k0, k1, k2, k3⟩ := HCl.out w1 hb1
  go_wp2_with fail
  refine (HSk.out w1 hb1).mono ?_
  rintro e w2 ⟨rfl, hb2⟩
  have hb3 := a_n hb2 hb1
  clear k0 k1 k2 k3
  go_wp2_with fail
  refine (HPr.out w2 i d (HS.out.below hb3) hi hd (fun _ => hbt) o_).mono ?_
  intro e2 w3 h3
  obtain ⟨v, rfl⟩ := h3.ret
  have HR := a_0 (h3.up (a_1 hb3))
  clear h3
  go_wp2
  exact p_f
 rw [if_pos hm]
 have HSk := a_0 (fun W' (hb : Below W.heap.size W W') => c_7 W' P A ts c i d (HS.out.below hb) hi hlen 5 [45] hm)
 clear hm hbt
 by_cases hk : (tk ts (i + 1)).kind = 2
 ·rw [if_pos hk]
  have hnb := q_O hv hi1 hk
  go_enter func321, ntmps321
  go_wp2_with fail
  refine HB.out.mono ?_
  rintro e w1 ⟨rfl, hb1⟩
  obtain ⟨k0, k1, k2, k3⟩ := HCl.out w1 hb1
  go_wp2_with fail
  refine (HSk.out w1 hb1).mono ?_
  rintro e w2 ⟨rfl, hS2, hg2⟩
  clear k0 k1 k2 k3 c0 c1 c2 c3
  obtain ⟨c0, c1, c2, c3⟩ := hS2.cells
  have hP2 := hS2.lt
  have hfr := hS2.free
  obtain ⟨g, off, rfl, hgP, t0, t1, t2, t3⟩ := hS2.tok.at_ hi1
  have hg : g < w2.heap.size := Nat.lt_trans hgP hP2
  have HS2 := a_0 hS2
  have HG2 := a_0 ((a_1 hb1).trans hg2)
  clear hS2 hg2 HB HSk HCl
  generalize tk ts (i + 1) = t at *
  obtain ⟨tk0, tk1, tk2, tk3⟩ := t
  simp only at t0 t1 t2 t3 hk hnb
  subst hk
  obtain ⟨nb1, nb2⟩ := hnb
  go_wp2
  go_region
  go_wp2_with fail
  refine (c_N ⟨2, -tk2, []⟩ _).mono ?_
  rintro e3 w3 ⟨⟨B, n, rfl, ho⟩, hb3⟩
  have HS3 := a_0 (((HS2.out.setAt (i + 1 + 1)).below zX).below hb3)
  have HG3 := a_0 (a_h (a_h (a_d HG2.out 1 (.int .i64 ((i + 1 + 1 : Nat) : Int))) zX) hb3)
  have HO3 := a_0 (a_Z ho (b2 := W.heap.size) (by have := HG2.out.size; simp; omega))
  clear ho c0 c1 c2 c3 t0 t1 t2 t3
  go_wp2
  exact m_U
 rw [if_neg hk]
 refine v_B ?_; intro hkb hff
 refine _ag ?_; intro i0 hi0 hz0 hz1 hz2
 have HCal := a_0 (show ∀ w2 : World, PSt XT w2 P A ts c (i + 1) d 0 → W.grownBy w2 (some P) → ∀ X : World, Below (w2.setCell ⟨P, 2, none⟩ (.int .i64 ((d + 1 : Nat) : Int))).heap.size (w2.setCell ⟨P, 2, none⟩ (.int .i64 ((d + 1 : Nat) : Int))) X → Calls prog 321 _ X (fun e2 w2 => ∃ (B2 : Option Addr) (n2 : Nat) (fs : List Nd) (k d3 : Nat) (x2 : Int), e2 = .returned (.slice B2 fs.length n2) ∧ w2.ownsRow W.heap.size 116 6 (.slice B2 fs.length n2) fs.length (a_a fs) ∧ PSt XT w2 P A ts c k (d3 + 1) x2 ∧ W.grownBy w2 (some P) ∧ i + 1 ≤ k ∧ k < ts.length ∧ fs.length ≤ k - (i + 1) ∧
   ((x2 = 0 ∧ d3 = d ∧ i + 1 < k ∧ prs ts F 7 (i + 1) (d + 1) = .ok fs k) ∨ (x2 ≠ 0 ∧ prs ts F 7 (i + 1) (d + 1) = .err x2 k ∧ d ≤ d3 ∧ d3 ≤ k))) from fun w2 hs2 hg2 X hb =>
  (HU.out X (i + 1) (d + 1) ((hs2.setDepth (d + 1)).below hb) hi1 o_ (fun e => absurd e o_) o_).mono fun e2 w2 h => by
   obtain ⟨B2, n2, fs, k, d2, x2, h1, h2, h3, h4, h5, h6, h7, h8⟩ := a_C hff h; have hgg := a_h (a_d hg2 2 (.int .i64 ((d + 1 : Nat) : Int))) hb; obtain ⟨d3, rfl⟩ : ∃ d3, d2 = d3 + 1 := ⟨d2 - 1, by rcases h8 with h8 | h8 <;> omega⟩
   exact ⟨B2, n2, fs, k, d3, x2, h1, a_Z h2 hgg.size, h3, hgg.trans h4, h5, h6, h7, by rcases h8 with ⟨q1, q2, q3, q4⟩ | ⟨q1, q2, q3⟩; exact .inl ⟨q1, o_, q3, q4⟩; exact .inr ⟨q1, q2, o_, o_⟩⟩)
 clear hff
 generalize prs ts F 7 (i + 1) (d + 1) = r at *
 go_enter func321, ntmps321
 go_wp2_with fail
 refine HB.out.mono ?_
 rintro e w1 ⟨rfl, hb1⟩
 obtain ⟨k0, k1, k2, k3⟩ := HCl.out w1 hb1
 go_wp2_with fail
 refine (HSk.out w1 hb1).mono ?_
 rintro e w2 ⟨rfl, hS2, hg2⟩
 clear k0 k1 k2 k3 c0 c1 c2 c3
 obtain ⟨c0, c1, c2, c3⟩ := hS2.cells
 have hP2 := hS2.lt
 have hfr := hS2.free
 obtain ⟨g, off, rfl, hgP, t0, t1, t2, t3⟩ := hS2.tok.at_ hi1
 have hg : g < w2.heap.size := Nat.lt_trans hgP hP2
 have HCl2 := a_0 (HCal.out w2 hS2 ((a_1 hb1).trans hg2))
 clear hS2 hg2 HB HSk HCl hk HCal
 generalize tk ts (i + 1) = t at *
 obtain ⟨tk0, tk1, tk2, tk3⟩ := t
 simp only at t0 t1 t2 t3 hkb
 go_wp2
 go_region
 go_wp2_with fail
 refine (HCl2.out _ zX).mono ?_
 rintro e2 w3 ⟨B2, n2, fs, k, d3, x2, rfl, ho2, hS3, hg3, hjk, hkl, hfl, hD2⟩
 refine r_T ?_; intro hd3
 have HS3 := a_0 hS3
 have HG3 := a_0 hg3
 have HD2 := a_0 hD2
 have hgs := hg3.size
 clear hS3 hg3 hD2 c0 c1 c2 c3 hfr HCl2 t0 t1 t2 t3
 go_wp2_with (at_builtin; refine wpList_append_own _ rfl _ _ 25 rfl W.heap.size 116 i0 _ 6 64 underlying25 hi0 hz0 hz1 hz2 rfl d_ _ _ _ rfl (ho2.alloc _) ⟨w3.heap.size, 0, none⟩ 1 1 [.int .i64 3, .int .i64 0, .int .i64 0, str [], str [], .int .i64 0] rfl rfl (by exact b_h (heap_alloc_new _ _)) c_ x_ o_ m_ ?_; intro v4 w4 o4 g4 _; obtain ⟨B4, n4, rfl⟩ := a_i o4; have HS4 := a_0 ((HS3.out.below (Below.alloc (b_ _ _) (l_ _) _)).gr g4 (fun j hj => Nat.lt_of_lt_of_le hP (ho2.lt j hj).1)); have HG4 := a_0 ((a_h HG3.out (Below.alloc (b_ _ _) (l_ _) _)).andThen g4 (fun j hj => .inl (ho2.lt j hj).1)); have HO4 := a_0 o4; clear o4 g4; obtain ⟨k0, k1, k2, k3⟩ := HS4.out.cells; have kf := HS4.out.free; have kP := HS4.out.lt)
 have HO5 := a_0 (a_v (d_5 (nd := c_3 3) HO4.out) (a_d (g_ w4 (some P)) 2 (.int .i64 (d3 : Int))) hP)
 have HS5 := a_0 (HS4.out.setDepth d3)
 have HG5 := a_0 (a_d HG4.out 2 (.int .i64 (d3 : Int)))
 clear k0 k1 k2 k3 kf
 go_ret
 rcases HD2.out with ⟨e1, e2, e3, e4⟩ | ⟨e1, e4, e5⟩
 ·rw [e4]
  subst e1 e2
  exact ⟨HG5.out, ⟨B4, n4, v_, HO5.out⟩, HS5.out⟩
 ·rw [e4]
  exact ⟨HG5.out, fs ++ [c_3 3], d3, ⟨B4, n4, v_, HO5.out⟩, o_, by simp only [List.length_append, List.length_singleton]; omega, e5, HS5.out⟩
end Go.Proofs.YtmbeeefkpgfgmaaGreatDoor
