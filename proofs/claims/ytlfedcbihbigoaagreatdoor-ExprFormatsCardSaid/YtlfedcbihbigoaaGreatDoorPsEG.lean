/- Contract: chain of expr's parser. Contracts: or, not of expr's parser. Contracts: unary of expr's parser. -/
import Derived.Test.YtlfedcbihbigoaaGreatDoorPsAD
import Derived.Laws.AppendOwnNone
import Derived.RegionTactic
import Derived.BigGuardPart
set_option linter.unusedVariables false
set_option linter.unusedSimpArgs false
namespace Go.Proofs.YtlfedcbihbigoaaGreatDoor
open Go.RowKit
theorem PSt.gr {T : TypeId} {w w' : World} {P : Nat} {A : Option Addr} {ts : List Tok} {c i d : Nat} {e : Int} {row : Option Nat} (h : PSt T w P A ts c i d e) (hg : w.grownBy w' row) (hr : ∀ j, row = some j → P < j) : PSt T w' P A ts c i d e := by
  have hne : ∀ g o, g ≤ P → some (⟨g, o, none⟩ : Addr).block ≠ row := fun g o hgP e => by have := hr g e.symm; omega
  refine ⟨(hg.block P h.lt (fun e => by have := hr P e.symm; omega)).trans h.blk, ?_, ?_⟩
  · obtain ⟨g, off, rfl, hP, hc⟩ := h.tok
    refine ⟨g, off, rfl, hP, fun i hi => ?_⟩
    obtain ⟨h1, h2, h3, h4⟩ := hc i hi
    exact ⟨hg.cell h1 (hne _ _ (by omega)), hg.cell h2 (hne _ _ (by omega)), hg.cell h3 (hne _ _ (by omega)), hg.cell h4 (hne _ _ (by omega))⟩
  · obtain ⟨h0, b, off, c, hb, h1, h2⟩ := h.wrd
    exact ⟨h0, b, off, c, hb, hg.cell h1 (hne _ _ (by omega)), fun j hj => hg.cell (h2 j hj) (hne _ _ (by omega))⟩
/-- A function of the parser at a level. -/
def LvC (K F l P : Nat) (A : Option Addr) (ts : List Tok) (c : Nat) : Prop := ∀ (W : World) (i d : Nat), PSt XT W P A ts c i d 0 → i < ts.length → d ≤ i → (l = 8 → begB ts i = true) → (ts.length - i) * 10 + (9 - l) ≤ F →
  Calls Tryz.prog K #[.pointer (some ⟨P, 0, none⟩)] W (PPost XT W P A ts c i d (prs ts F l i d))
/-- The chain of m levels from l on. -/
def ChC (K F l m P : Nat) (A : Option Addr) (ts : List Tok) (c : Nat) : Prop := ∀ (W : World) (i d : Nat) (Lv : Option Addr), PSt XT W P A ts c i d 0 → i < ts.length → d ≤ i → LevelsAt W P Lv m l → (ts.length - i) * 10 + (9 - l) ≤ F →
  Calls Tryz.prog 50 #[.pointer (some ⟨P, 0, none⟩), .slice Lv m m, .func (.func K) #[.pointer (some ⟨P, 0, none⟩)] #[]] W (PPost XT W P A ts c i d (prs ts F l i d))
set_option maxRecDepth 100000 in
set_option maxHeartbeats 1000000 in
theorem chain_zero_not (F l P : Nat) (A : Option Addr) (ts : List Tok) (c : Nat) (h : LvC 52 F l P A ts c) (h8 : l ≠ 8) : ChC 52 F l 0 P A ts c := by
  intro W i d Lv hS hi hd hL hF
  have HK := hide (h W i d hS hi hd (fun e => absurd e h8) hF)
  clear h hS hL
  generalize prs ts F l i d = R at *
  go_enter Tryz.func50, Tryz.ntmps50
  go_wp2_with fail
  refine HK.out.mono ?_
  cases R with
  | ok es j =>
    rintro e w1 ⟨hg, ⟨B, n, rfl, ho⟩, hs⟩
    have HO := hide ho
    have HS := hide hs
    clear ho hs HK
    go_wp2
    go_ret
    exact ⟨hg, ⟨B, n, rfl, HO.out⟩, HS.out⟩
  | err x j =>
    rintro e w1 ⟨hg, es, d', ⟨B, n, rfl, ho⟩, h1, h2, h3, hs⟩
    have HO := hide ho
    have HS := hide hs
    clear ho hs HK
    go_wp2
    go_ret
    exact ⟨hg, es, d', ⟨B, n, rfl, HO.out⟩, h1, h2, h3, HS.out⟩
  | out => exact fun e w1 ⟨_, h⟩ => h.elim
set_option maxRecDepth 100000 in
set_option maxHeartbeats 1000000 in
theorem chain_zero_unary (F l P : Nat) (A : Option Addr) (ts : List Tok) (c : Nat) (h : LvC 123 F l P A ts c) (h8 : l ≠ 8) : ChC 123 F l 0 P A ts c := by
  intro W i d Lv hS hi hd hL hF
  have HK := hide (h W i d hS hi hd (fun e => absurd e h8) hF)
  clear h hS hL
  generalize prs ts F l i d = R at *
  go_enter Tryz.func50, Tryz.ntmps50
  go_wp2_with fail
  refine HK.out.mono ?_
  cases R with
  | ok es j =>
    rintro e w1 ⟨hg, ⟨B, n, rfl, ho⟩, hs⟩
    have HO := hide ho
    have HS := hide hs
    clear ho hs HK
    go_wp2
    go_ret
    exact ⟨hg, ⟨B, n, rfl, HO.out⟩, HS.out⟩
  | err x j =>
    rintro e w1 ⟨hg, es, d', ⟨B, n, rfl, ho⟩, h1, h2, h3, hs⟩
    have HO := hide ho
    have HS := hide hs
    clear ho hs HK
    go_wp2
    go_ret
    exact ⟨hg, es, d', ⟨B, n, rfl, HO.out⟩, h1, h2, h3, HS.out⟩
  | out => exact fun e w1 ⟨_, h⟩ => h.elim
theorem gr_bel {W w w' : World} {r : Option Nat} (h : W.grownBy w r) (hb : Below w.heap.size w w') : W.grownBy w' r := h.trans (grown_of_below hb)
theorem sym_short {x : Bytes} (h : symB x = true) : x.length ≤ 64 := by
  unfold symB at h
  have h := List.contains_iff_mem.1 h
  have : ∀ y ∈ symbolsS, y.length ≤ 64 := by decide
  exact this x h
theorem tk_short {ts : List Tok} (hv : valT ts = true) {i : Nat} (h : i < ts.length) : (tk ts i).text.length ≤ 64 := by
  have hk := tk_ok hv h
  unfold Tok.ok at hk
  generalize tk ts i = t at *
  obtain ⟨k, x, n, o⟩ := t
  simp only at hk ⊢
  by_cases h0 : k = 0
  · subst h0; rw [okTok_0] at hk; simp at hk; simp [hk.1]
  by_cases h1 : k = 1
  · subst h1; rw [okTok_1] at hk; simp only [Bool.and_eq_true] at hk; have := isQualB_len hk.1; omega
  by_cases h2 : k = 2
  · subst h2; rw [okTok_2] at hk; simp at hk; simp [hk.1]
  by_cases h3 : k = 3
  · subst h3; rw [okTok_3] at hk; simp at hk; exact hk.1
  by_cases h4 : k = 4
  · subst h4; rw [okTok_4] at hk; simp at hk; simp [hk.1]
  by_cases h5 : k = 5
  · subst h5; rw [okTok_5] at hk; simp only [Bool.and_eq_true] at hk; exact sym_short hk.1
  · rw [okTok_no (by simpa using h0) (by simpa using h1) (by simpa using h2) (by simpa using h3) (by simpa using h4) (by simpa using h5)] at hk; cases hk
theorem ppost_open {T : TypeId} {W : World} {P : Nat} {A : Option Addr} {ts : List Tok} {c b d : Nat} {r : PR} {e : Ending} {w1 : World} (hf : Fact ts b r) (h : PPost T W P A ts c b d r e w1) :
    ∃ (B : Option Addr) (n : Nat) (es : List Nd) (j d' : Nat) (x : Int), e = .returned (.slice B es.length n) ∧ w1.ownsRow W.heap.size 53 6 (.slice B es.length n) es.length (ndCells es) ∧ PSt T w1 P A ts c j d' x ∧ W.grownBy w1 (some P) ∧ b ≤ j ∧ j < ts.length ∧ es.length ≤ j - b ∧
      ((x = 0 ∧ d' = d ∧ b < j ∧ r = .ok es j) ∨ (x ≠ 0 ∧ r = .err x j ∧ d ≤ d' ∧ d' ≤ j)) := by
  obtain ⟨hg, h⟩ := h
  cases r with
  | ok es j =>
    obtain ⟨⟨B, n, rfl, ho⟩, hs⟩ := h
    exact ⟨B, n, es, j, d, 0, rfl, ho, hs, hg, Nat.le_of_lt hf.1, hf.2.1, hf.2.2.1, .inl ⟨rfl, rfl, hf.1, rfl⟩⟩
  | err x j =>
    obtain ⟨es, d', ⟨B, n, rfl, ho⟩, h1, h2, h3, hs⟩ := h
    exact ⟨B, n, es, j, d', x, rfl, ho, hs, hg, h1, hf.1, h2, .inr ⟨by rcases hf.2 with h | h <;> omega, rfl, h3⟩⟩
  | out => exact h.elim
theorem own_addr {w : World} {base e size n c : Nat} {A : Option Addr} {xs : List Value} (h : w.ownsRow base e size (.slice A n c) n xs) : (A = none ∧ n = 0 ∧ c = 0) ∨ ∃ g, A = some ⟨g, 0, none⟩ := by
  rcases h.2 with ⟨hv, hn⟩ | ⟨g, cap, cur, hv, _⟩
  · injection hv with h1 h2 h3; exact .inl ⟨h1, hn, h3⟩
  · injection hv with h1; exact .inr ⟨g, h1⟩
theorem own_nd {w : World} {base n : Nat} {A : Option Addr} {es fs : List Nd} {o : Int} (h : w.ownsRow base 53 6 (.slice A (es.length + fs.length + 1) n) (es.length + fs.length + 1) (ndCells es ++ ndCells fs ++ (opNd o).cells)) :
    w.ownsRow base 53 6 (.slice A (es ++ fs ++ [opNd o]).length n) (es ++ fs ++ [opNd o]).length (ndCells (es ++ fs ++ [opNd o])) := by
  have e : ndCells (es ++ fs ++ [opNd o]) = ndCells es ++ ndCells fs ++ (opNd o).cells := by rw [ndCells_append, ndCells_append]; simp [ndCells]
  rw [e, List.length_append, List.length_append]; exact h
def msr (P : Nat) (ts : List Tok) (w : World) : Nat := match w.cell? ⟨P, 1, none⟩, w.cell? ⟨P, 3, none⟩ with
  | some (.int _ a), some (.int _ e) => 2 * (ts.length - a.toNat) + (if e = 0 then 1 else 0)
  | _, _ => 0
theorem msr_eq {T : TypeId} {w : World} {P : Nat} {A : Option Addr} {ts : List Tok} {c i d : Nat} {e : Int} (h : PSt T w P A ts c i d e) : msr P ts w = 2 * (ts.length - i) + (if e = 0 then 1 else 0) := by
  obtain ⟨c0, c1, c2, c3⟩ := h.cells
  unfold msr
  rw [c1, c3]
  simp
theorem prs_chn {ts : List Tok} {F l i d : Nat} (hl : l = 0 ∨ l = 1 ∨ l = 4 ∨ l = 5 ∨ l = 6) : prs ts (F + 1) l i d = (prs ts F (l + 1) i d).bind (chainG (fun j => prs ts F (l + 1) j d) (opOf l) ts ts.length) := by
  rcases hl with rfl | rfl | rfl | rfl | rfl <;> rfl
set_option maxRecDepth 100000 in
set_option maxHeartbeats 1000000 in
theorem chain_succ (K F l m P : Nat) (A : Option Addr) (ts : List Tok) (c : Nat) (hv : valT ts = true) (hlen : ts.length ≤ 1000000) (hlv : l = 0 ∨ l = 1 ∨ l = 4 ∨ l = 5 ∨ l = 6) (IH : ChC K F (l + 1) m P A ts c) : ChC K (F + 1) l (m + 1) P A ts c := by
  intro W i d Lv hS hi hd hL hF
  have hne := prs_ne hv (F + 1) l i d hi (by omega) (fun e => absurd e (by omega)) hF
  rw [prs_chn hlv] at hne ⊢
  have hfact := fun j (hj : j < ts.length) => prs_fact hv F (l + 1) j d hj (fun e => absurd e (by omega))
  have hP := hS.lt
  have hL' := hL
  rcases hL with h | ⟨g, off, rfl, hPg, hgs, hc⟩
  · cases h
  have HL := hide hL'
  have HI := hide IH
  have HFa := hide hfact
  obtain ⟨LV, hLV⟩ : ∃ LV : Option Addr, (m = 0 ∧ LV = some ⟨g, off, none⟩) ∨ (0 < m ∧ LV = some ⟨g, off + 2, none⟩) := by
    rcases Nat.eq_zero_or_pos m with h | h
    · exact ⟨_, .inl ⟨h, rfl⟩⟩
    · exact ⟨_, .inr ⟨h, rfl⟩⟩
  have HTl := hide (show ∀ W', LevelsAt W' P (some ⟨g, off, none⟩) (m + 1) l → LevelsAt W' P LV m (l + 1) from fun W' h => by
    rcases hLV with ⟨h0, _⟩ | ⟨_, rfl⟩
    · exact .inl h0
    · exact h.tail)
  have HC1 := hide (IH W i d LV hS hi hd (HTl.out W hL') (by omega))
  clear IH hfact hL' hS hc
  generalize hq : (fun j => prs ts F (l + 1) j d) = q at *
  have HQ := hide hq
  have hf0 := HFa.out i hi
  generalize hr0 : prs ts F (l + 1) i d = r0 at *
  clear hr0
  generalize hR : r0.bind (chainG q (opOf l) ts ts.length) = R at *
  have HR := hide hR
  clear hq hR
  have HStart := hide (show ∀ e w1, PPost XT W P A ts c i d r0 e w1 → ∃ (B : Option Addr) (n : Nat) (es : List Nd) (j d' : Nat) (x : Int), e = .returned (.slice B es.length n) ∧ Hid (w1.ownsRow W.heap.size 53 6 (.slice B es.length n) es.length (ndCells es)) ∧ Hid (PSt XT w1 P A ts c j d' x) ∧ Hid (W.grownBy w1 (some P)) ∧ i ≤ j ∧ j < ts.length ∧ es.length ≤ j - i ∧ Hid ((x = 0 ∧ d' = d ∧ i < j ∧ ∃ G, chainG q (opOf l) ts G es j = R) ∨ (x ≠ 0 ∧ R = .err x j ∧ d ≤ d' ∧ d' ≤ j)) from by
    have hr := HR.out
    rintro e w1 ⟨hg, h⟩
    cases r0 with
    | ok es j =>
      obtain ⟨⟨B, n, rfl, ho⟩, hs⟩ := h
      exact ⟨B, n, es, j, d, 0, rfl, hide ho, hide hs, hide hg, Nat.le_of_lt hf0.1, hf0.2.1, hf0.2.2.1, hide (.inl ⟨rfl, rfl, hf0.1, _, hr⟩)⟩
    | err x j =>
      obtain ⟨es, d', ⟨B, n, rfl, ho⟩, h1, h2, h3, hs⟩ := h
      exact ⟨B, n, es, j, d', x, rfl, hide ho, hide hs, hide hg, h1, hf0.1, h2, hide (.inr ⟨by rcases hf0.2 with h | h <;> omega, hr.symm, h3⟩)⟩
    | out => exact h.elim)
  clear HR hf0
  rcases hLV with ⟨rfl, rfl⟩ | ⟨hm, rfl⟩
  all_goals
    go_enter Tryz.func50, Tryz.ntmps50
    go_wp2_with fail
    refine HC1.out.mono ?_
    intro e0 w1 h0
    obtain ⟨B, n, es, j, d', x, rfl, HO, HS, HG, hij, hjl, hel, HD⟩ := HStart.out _ _ h0
    clear h0 HStart HC1
    go_wp2
    go_loopw [7] (fun s wr => ∃ (B : Option Addr) (n : Nat) (es : List Nd) (j d' : Nat) (x : Int), s = .slice B es.length n ∧ Hid (wr.ownsRow W.heap.size 53 6 (.slice B es.length n) es.length (ndCells es)) ∧ Hid (PSt XT wr P A ts c j d' x) ∧ Hid (W.grownBy wr (some P)) ∧ i ≤ j ∧ j < ts.length ∧ es.length ≤ j - i ∧ Hid ((x = 0 ∧ d' = d ∧ i < j ∧ ∃ G, chainG q (opOf l) ts G es j = R) ∨ (x ≠ 0 ∧ R = .err x j ∧ d ≤ d' ∧ d' ≤ j))) (fun _ wr => msr P ts wr)
    case atStart => exact ⟨B, n, es, j, d', x, rfl, HO, HS, HG, hij, hjl, hel, HD⟩
    case round =>
      clear HO HS HG hij hjl hel HD
      obtain ⟨B, n, es, j, d', x, rfl, HO, HS, HG, hij, hjl, hel, HD⟩ := hrel
      obtain ⟨c0, c1, c2, c3⟩ := HS.out.cells
      have hPr := HS.out.lt
      by_cases hx : x = 0
      · rcases HD.out with ⟨_, hdd, hij2, G, hG⟩ | ⟨h, _⟩
        rotate_left
        · exact absurd hx h
        subst hx hdd
        obtain ⟨gt, ot, rfl, hgt, t0, t1, t2, t3⟩ := HS.out.tok.at_ hjl
        have htl := tk_short hv hjl
        have hgt2 : gt < wr.heap.size := Nat.lt_trans hgt hPr
        rcases HL.out.fr HG.out with h | ⟨g', off', he, _, hgs2, hc2⟩
        · cases h
        injection he with he
        injection he with he1 he2
        subst he1 he2
        obtain ⟨l0, Bm, nm, l1, hBm, hom⟩ := hc2 0 (by omega)
        clear hc2
        simp only [Nat.zero_mul, Nat.add_zero] at l0 l1 hom
        have hBs := hom.lt
        have hlk := fun (o : Obj) (k : Nat) => lv_look hlv (show ((wr.alloc o).drewN k).ownsMap Tryz.prog 9 (plainElem Tryz.prog 3) Bm nm (lvD l) from hom.alloc o) (tk ts j).text (by unfold maxLen; omega)
        have hop := opOf_T l (tk ts j) hlv
        have hG2 : (match opOf l (tk ts j) with
          | none => PR.ok es j
          | some o => (q (j + 1)).bind fun fs k => chainG q (opOf l) ts (G - 1) (es ++ fs ++ [opNd o]) k) = R := by
          cases G with
          | zero => exact absurd hG.symm hne
          | succ G => exact hG
        clear hG hom
        rw [hop] at hG2
        clear hop
        have hnx := fun (h : (tk ts j).kind ≠ 0) => tk_next hv hjl h
        generalize tk ts j = t at *
        obtain ⟨tk0, tk1, tk2, tk3⟩ := t
        simp only at t0 t1 t2 t3 htl hlk hG2 hnx
        by_cases hk : tk0 = lk l
        · subst hk
          rw [if_pos rfl] at hG2
          rcases hop : opT l tk1 with _ | o
          · rw [hop] at hlk hG2
            simp only at hG2
            simp only [Option.getD_none, Option.isSome_none] at hlk
            have HE := hide hG2
            clear hG2 hnx
            generalize lk l = kd at *
            go_wp2
            go_region
            go_wp2
            go_big_quiet (fail)
            go_wp2
            go_big_quiet (fail)
            go_wp2
            go_ret
            rw [← HE.out]
            exact ⟨gr_bel HG.out (by (repeat (first | exact Below.refl _ _ | assumption | refine Below.drew ?_ | refine below_drewN ?_ _ | refine Below.alloc ?_ (by first | omega | simp <;> omega) _ | refine Below.setCell ?_ (by first | omega | simp <;> omega) _))), ⟨B, n, rfl, own_below HO.out (by (repeat (first | exact Below.refl _ _ | assumption | refine Below.drew ?_ | refine below_drewN ?_ _ | refine Below.alloc ?_ (by first | omega | simp <;> omega) _ | refine Below.setCell ?_ (by first | omega | simp <;> omega) _)))⟩, HS.out.below (by (repeat (first | exact Below.refl _ _ | assumption | refine Below.drew ?_ | refine below_drewN ?_ _ | refine Below.alloc ?_ (by first | omega | simp <;> omega) _ | refine Below.setCell ?_ (by first | omega | simp <;> omega) _)))⟩
          · rw [hop] at hlk hG2
            simp only at hG2
            simp only [Option.getD_some, Option.isSome_some] at hlk
            have HE := hide hG2
            have hj1 := hnx (by unfold lk; split <;> decide)
            clear hG2 hnx hop
            have HQ1 : prs ts F (l + 1) (j + 1) d' = q (j + 1) := congrFun HQ.out (j + 1)
            have hff := HFa.out (j + 1) hj1
            have HCal := hide (show ∀ W' : World, Below wr.heap.size wr W' → Calls Tryz.prog 50 _ (W'.setCell ⟨P, 1, none⟩ (.int .i64 ((j + 1 : Nat) : Int))) (fun e2 w2 => ∃ (B2 : Option Addr) (n2 : Nat) (fs : List Nd) (k d2 : Nat) (x2 : Int), e2 = .returned (.slice B2 fs.length n2) ∧ (∃ b2, w2.ownsRow b2 53 6 (.slice B2 fs.length n2) fs.length (ndCells fs)) ∧ PSt XT w2 P (some ⟨gt, ot, none⟩) ts c k d2 x2 ∧ wr.grownBy w2 (some P) ∧ j + 1 ≤ k ∧ k < ts.length ∧ fs.length ≤ k - (j + 1) ∧
                ((x2 = 0 ∧ d2 = d' ∧ j + 1 < k ∧ q (j + 1) = .ok fs k) ∨ (x2 ≠ 0 ∧ q (j + 1) = .err x2 k ∧ d' ≤ d2 ∧ d2 ≤ k))) from fun W' hb =>
              (HI.out (W'.setCell ⟨P, 1, none⟩ (.int .i64 ((j + 1 : Nat) : Int))) (j + 1) d' _ ((HS.out.below hb).setAt (j + 1)) hj1 (by omega) (HTl.out _ (HL.out.fr (gr_set (gr_bel HG.out hb) _ _))) (by omega)).mono fun e2 w2 h => by
                obtain ⟨B2, n2, fs, k, d2, x2, h1, h2, h3, h4, h5, h6, h7, h8⟩ := ppost_open hff h
                rw [HQ1] at h8
                exact ⟨B2, n2, fs, k, d2, x2, h1, ⟨_, h2⟩, h3, (gr_set (grown_of_below hb) 1 _).trans h4, h5, h6, h7, h8⟩)
            clear hff
            have hfr := HS.out.free
            generalize lk l = kd at *
            go_wp2
            go_region
            go_wp2
            go_big_quiet (fail)
            go_wp2
            go_big_quiet (fail)
            go_wp2_with fail
            refine (HCal.out _ (by (repeat (first | exact Below.refl _ _ | assumption | refine Below.drew ?_ | refine below_drewN ?_ _ | refine Below.alloc ?_ (by first | omega | simp <;> omega) _ | refine Below.setCell ?_ (by first | omega | simp <;> omega) _)))).mono ?_
            rintro e2 w2 ⟨B2, n2, fs, k, d2, x2, rfl, ⟨b2, ho2⟩, hS2, hg2, hjk, hkl, hfl, hD2⟩
            have hoe : w2.ownsRow W.heap.size 53 6 (.slice B es.length n) es.length (ndCells es) := own_fr HO.out hg2 hP
            have hWw : W.heap.size ≤ wr.heap.size := HG.out.size
            have hgw := hg2.size
            have HS2 := hide hS2
            have HG2 := hide (HG.out.trans hg2)
            have HD2 := hide hD2
            clear hS2 hD2 hg2
            obtain ⟨i0, hi0, hz0, hz1, hz2⟩ := info_parts Tryz.info_nd
            rcases own_addr ho2 with ⟨rfl, hf0, rfl⟩ | ⟨g2, rfl⟩
            · obtain rfl : fs = [] := List.eq_nil_of_length_eq_zero hf0
              clear ho2 hf0
              simp only [List.length_nil] at *
              go_wp2_with (first
                | (at_builtin; refine wpList_append_own_none rfl _ _ _ rfl _ 53 i0 6 Tryz.underlying30 hi0 _ _ _ rfl hoe rfl ?_)
                | (at_builtin; refine wpList_append_own _ rfl _ _ 30 rfl W.heap.size 53 i0 _ 6 64 Tryz.underlying30 hi0 hz0 hz1 hz2 rfl (by decide) _ _ _ rfl (hoe.alloc _) ⟨w2.heap.size, 0, none⟩ 1 1 [.int .i64 o, .int .i64 0, .int .i64 0, str [], str [], .int .i64 0] rfl rfl (by exact cells_6 (heap_alloc_new _ _)) (by simp [Value.oneCell']) (by unfold maxLen; omega) (by omega) (by simp; omega) ?_; intro v4 w4 o4 g4 _; obtain ⟨B4, n4, rfl⟩ := own_form o4; have HS4 := hide ((HS2.out.below (Below.alloc (Below.refl _ _) (Nat.le_refl _) _)).gr g4 (fun j hj => Nat.lt_of_lt_of_le hP (hoe.lt j hj).1)); have HG4 := hide ((gr_bel HG2.out (Below.alloc (Below.refl _ _) (Nat.le_refl _) _)).andThen g4 (fun j hj => .inl (hoe.lt j hj).1)); have HO4 := hide o4; clear o4 g4))
              have OWNF := own_nd (es := es) (fs := []) (o := o) (n := n4) (A := B4) (w := w4) (base := W.heap.size) (by rw [List.length_nil, Nat.add_zero, show ndCells [] = [] from rfl, List.append_nil]; exact HO4.out)
              have hl4 := HS4.out
              refine ⟨⟨B4, n4, es ++ [] ++ [opNd o], k, d2, x2, by first | rfl | (simp; done) | (simp; omega), hide OWNF, HS4, HG4, by omega, hkl, by simp; omega, hide ?_⟩, ?_⟩
              · rcases HD2.out with ⟨e1, e2, e3, e4⟩ | ⟨e1, e4, e5⟩
                · refine .inl ⟨e1, e2, by omega, G - 1, ?_⟩
                  have hE := HE.out
                  rw [e4] at hE
                  exact hE
                · refine .inr ⟨e1, ?_, e5⟩
                  have hE := HE.out
                  rw [e4] at hE
                  exact hE.symm
              · rw [msr_eq hl4, msr_eq HS.out]
                split <;> simp <;> omega
            · have hcf := (orow_cells ho2).2.2
              clear ho2
              go_wp2_with (first
                | (at_builtin; refine wpList_append_own _ rfl _ _ 30 rfl W.heap.size 53 i0 _ 6 64 Tryz.underlying30 hi0 hz0 hz1 hz2 rfl (by decide) _ _ _ rfl hoe ⟨g2, 0, none⟩ fs.length n2 (ndCells fs) rfl (ndCells_len _) hcf (nd_one _) (by unfold maxLen; omega) (by omega) (by omega) ?_; intro v3 w3 o3 g3 _; obtain ⟨B3, n3, rfl⟩ := own_form o3; have HS3 := hide (HS2.out.gr g3 (fun j hj => Nat.lt_of_lt_of_le hP (hoe.lt j hj).1)); have HG3 := hide (HG2.out.andThen g3 (fun j hj => .inl (hoe.lt j hj).1)); have hz3 := g3.size; clear hcf g3)
                | (at_builtin; refine wpList_append_own _ rfl _ _ 30 rfl W.heap.size 53 i0 _ 6 64 Tryz.underlying30 hi0 hz0 hz1 hz2 rfl (by decide) _ _ _ rfl (o3.alloc _) ⟨w3.heap.size, 0, none⟩ 1 1 [.int .i64 o, .int .i64 0, .int .i64 0, str [], str [], .int .i64 0] rfl rfl (by exact cells_6 (heap_alloc_new _ _)) (by simp [Value.oneCell']) (by unfold maxLen; omega) (by omega) (by simp; omega) ?_; intro v4 w4 o4 g4 _; obtain ⟨B4, n4, rfl⟩ := own_form o4; have HS4 := hide ((HS3.out.below (Below.alloc (Below.refl _ _) (Nat.le_refl _) _)).gr g4 (fun j hj => Nat.lt_of_lt_of_le hP (o3.lt j hj).1)); have HG4 := hide ((gr_bel HG3.out (Below.alloc (Below.refl _ _) (Nat.le_refl _) _)).andThen g4 (fun j hj => .inl (o3.lt j hj).1)); have HO4 := hide o4; clear o4 g4))
              have OWNF := own_nd (es := es) (fs := fs) (o := o) (n := n4) (A := B4) (w := w4) (base := W.heap.size) HO4.out
              have hl4 := HS4.out
              refine ⟨⟨B4, n4, es ++ fs ++ [opNd o], k, d2, x2, by first | rfl | (simp; done) | (simp; omega), hide OWNF, HS4, HG4, by omega, hkl, by simp; omega, hide ?_⟩, ?_⟩
              · rcases HD2.out with ⟨e1, e2, e3, e4⟩ | ⟨e1, e4, e5⟩
                · refine .inl ⟨e1, e2, by omega, G - 1, ?_⟩
                  have hE := HE.out
                  rw [e4] at hE
                  exact hE
                · refine .inr ⟨e1, ?_, e5⟩
                  have hE := HE.out
                  rw [e4] at hE
                  exact hE.symm
              · rw [msr_eq hl4, msr_eq HS.out]
                split <;> simp <;> omega
        · have hkn : (tk0 != lk l) = true := by simpa using hk
          rw [if_neg hk] at hG2
          simp only at hG2
          have HE := hide hG2
          clear hG2 hnx hk
          generalize lk l = kd at *
          generalize (opT l tk1).getD 0 = ov at *
          generalize (opT l tk1).isSome = bv at *
          go_wp2
          go_region
          go_wp2
          go_big_quiet (fail)
          go_wp2
          go_big_quiet (fail)
          all_goals go_wp2
          all_goals go_ret
          all_goals rw [← HE.out]
          all_goals exact ⟨gr_bel HG.out (by (repeat (first | exact Below.refl _ _ | assumption | refine Below.drew ?_ | refine below_drewN ?_ _ | refine Below.alloc ?_ (by first | omega | simp <;> omega) _ | refine Below.setCell ?_ (by first | omega | simp <;> omega) _))), ⟨B, n, rfl, own_below HO.out (by (repeat (first | exact Below.refl _ _ | assumption | refine Below.drew ?_ | refine below_drewN ?_ _ | refine Below.alloc ?_ (by first | omega | simp <;> omega) _ | refine Below.setCell ?_ (by first | omega | simp <;> omega) _)))⟩, HS.out.below (by (repeat (first | exact Below.refl _ _ | assumption | refine Below.drew ?_ | refine below_drewN ?_ _ | refine Below.alloc ?_ (by first | omega | simp <;> omega) _ | refine Below.setCell ?_ (by first | omega | simp <;> omega) _)))⟩
      · have hxb : (x == 0) = false := beq_eq_false_iff_ne.2 hx
        rcases HD.out with ⟨h, _⟩ | ⟨_, hE, hdE⟩
        · exact absurd h hx
        have HE := hide hE
        clear hE
        go_wp2
        go_ret
        rw [HE.out]
        exact ⟨HG.out, es, d', ⟨B, n, rfl, HO.out⟩, hij, hel, hdE, HS.out⟩
end Go.Proofs.YtlfedcbihbigoaaGreatDoor

namespace Go.Proofs.YtlfedcbihbigoaaGreatDoor
open Go.RowKit
theorem PPost.ret {T : TypeId} {W : World} {P : Nat} {A : Option Addr} {ts : List Tok} {c b d : Nat} {r : PR} {e : Ending} {w1 : World} (h : PPost T W P A ts c b d r e w1) : ∃ v, e = .returned v := by
  obtain ⟨hg, h⟩ := h
  cases r with
  | ok es j => obtain ⟨⟨B, n, rfl, ho⟩, hs⟩ := h; exact ⟨_, rfl⟩
  | err x j => obtain ⟨es, d', ⟨B, n, rfl, ho⟩, _⟩ := h; exact ⟨_, rfl⟩
  | out => exact h.elim
theorem PPost.up {T : TypeId} {W w : World} {P : Nat} {A : Option Addr} {ts : List Tok} {c b d : Nat} {r : PR} {e : Ending} {w1 : World} (h : PPost T w P A ts c b d r e w1) (hg : W.grownBy w (some P)) : PPost T W P A ts c b d r e w1 := by
  obtain ⟨hg1, h⟩ := h
  refine ⟨hg.trans hg1, ?_⟩
  cases r with
  | ok es j => obtain ⟨⟨B, n, rfl, ho⟩, hs⟩ := h; exact ⟨⟨B, n, rfl, own_low ho hg.size⟩, hs⟩
  | err x j => obtain ⟨es, d', ⟨B, n, rfl, ho⟩, h1, h2, h3, hs⟩ := h; exact ⟨es, d', ⟨B, n, rfl, own_low ho hg.size⟩, h1, h2, h3, hs⟩
  | out => exact h.elim
theorem prs_2 (ts : List Tok) (F i d : Nat) : prs ts (F + 1) 2 i d = if isWord (tk ts i) wNot = true then
    if 256 < d then .err 2 i else (prs ts F 2 (i + 1) (d + 1)).bind fun es j => .ok (es ++ [opNd 2]) j
  else prs ts F 3 i d := rfl
theorem prs_3 (ts : List Tok) (F i d : Nat) : prs ts (F + 1) 3 i d = (prs ts F 4 i d).bind fun es j => match cmpOf (tk ts j) with
    | none => .ok es j
    | some (o, b) => (prs ts F 4 (j + 1) d).bind fun fs m => .ok ((if b = true then fs ++ es else es ++ fs) ++ [opNd o]) m := rfl
theorem prs_7 (ts : List Tok) (F i d : Nat) : prs ts (F + 1) 7 i d = if begB ts i = false then .err 3 i
  else if 256 < d then .err 2 i
  else if isSym (tk ts i) [45] = true then
    if (tk ts (i + 1)).kind = 2 then .ok [cNd 2 (-(tk ts (i + 1)).num) []] (i + 2)
    else (prs ts F 7 (i + 1) (d + 1)).bind fun es j => .ok (es ++ [opNd 3]) j
  else prs ts F 8 i d := rfl
theorem prs_8 (ts : List Tok) (F i d : Nat) : prs ts (F + 1) 8 i d = if (tk ts i).kind = 2 then .ok [cNd 2 (tk ts i).num []] (i + 1)
  else if (tk ts i).kind = 3 then .ok [cNd 3 0 (tk ts i).text] (i + 1)
  else if (tk ts i).kind = 4 then .ok [cNd 4 (tk ts i).num []] (i + 1)
  else if (tk ts i).kind = 5 then (prs ts F 0 (i + 1) (d + 1)).bind fun es j => if isSym (tk ts j) [41] = true then .ok es (j + 1) else .err 3 j
  else if (tk ts i).text = wNull then .ok [cNd 0 0 []] (i + 1)
  else if (tk ts i).text = wTrue then .ok [cNd 1 1 []] (i + 1)
  else if (tk ts i).text = wFalse then .ok [cNd 1 0 []] (i + 1)
  else if isSym (tk ts (i + 1)) [40] = true then callP (fun l i d => prs ts F l i d) ts (tk ts i).text (i + 2) (d + 1)
  else .ok [⟨1, vl0, (tk ts i).text, 0⟩] (i + 1) := rfl
theorem own_nd1 {w : World} {base n : Nat} {A : Option Addr} {es : List Nd} {nd : Nd} (h : w.ownsRow base 53 6 (.slice A (es.length + 1) n) (es.length + 1) (ndCells es ++ nd.cells)) :
    w.ownsRow base 53 6 (.slice A (es ++ [nd]).length n) (es ++ [nd]).length (ndCells (es ++ [nd])) := by
  have e : ndCells (es ++ [nd]) = ndCells es ++ nd.cells := by rw [ndCells_append]; simp [ndCells]
  rw [e, List.length_append]; exact h
set_option maxRecDepth 100000 in
set_option maxHeartbeats 1000000 in
theorem p_or (F P : Nat) (A : Option Addr) (ts : List Tok) (c : Nat) (h : ChC 52 F 0 2 P A ts c) : LvC 29 F 0 P A ts c := by
  intro W i d hS hi hd _ hF
  have hP := hS.lt
  have HS := hide hS
  have HH := hide h
  clear hS h
  have hmf : ∀ (fn : Fn) (first cap : Array Value) (w : World), (Instr.makeFunc fn first cap).run Tryz.prog w = .ok (.func fn first cap) w := fun _ _ _ _ => rfl
  go_enter Tryz.func29, Tryz.ntmps29
  go_wp2_with fail
  refine (loose_any P W hP).mono ?_
  rintro e w1 ⟨⟨Lv, rfl, hL⟩, hb1⟩
  have HL := hide hL
  clear hL
  go_wp2_with fail
  refine (HH.out w1 i d Lv (HS.out.below hb1) hi hd HL.out hF).mono ?_
  intro e2 w2 h2
  obtain ⟨v, rfl⟩ := h2.ret
  have HR := hide (h2.up (grown_of_below hb1))
  clear h2
  go_wp2
  go_ret
  exact HR.out
set_option maxRecDepth 100000 in
set_option maxHeartbeats 2000000 in
theorem p_not (F P : Nat) (A : Option Addr) (ts : List Tok) (c : Nat) (hv : valT ts = true) (hlen : ts.length ≤ 1000000) (hN : LvC 52 F 2 P A ts c) (hC : LvC 86 F 3 P A ts c) : LvC 52 (F + 1) 2 P A ts c := by
  intro W i d hS hi hd _ hF
  rw [prs_2]
  have hP := hS.lt
  have HI := hide (p_is W P A ts c i d 0 hS hi hlen 1 wNot)
  have HS := hide hS
  have HN := hide hN
  have HC := hide hC
  clear hS hN hC
  by_cases hw : isWord (tk ts i) wNot = true
  · rw [if_pos hw]
    have hi1 := word_next hv hi hw
    have hb : ((tk ts i).kind == 1 && (tk ts i).text == wNot) = true := hw
    rw [hb] at HI
    clear hb hw
    by_cases hd2 : 256 < d
    · rw [if_pos hd2]
      have HFl := hide (fun W' (hb : Below W.heap.size W W') => p_fail W' P A ts c i d (HS.out.below hb) 2)
      unfold wNot at *
      go_enter Tryz.func52, Tryz.ntmps52
      go_wp2_with fail
      refine HI.out.mono ?_
      rintro e w1 ⟨rfl, hb1⟩
      obtain ⟨c0, c1, c2, c3⟩ := (HS.out.below hb1).cells
      have hP1 := (HS.out.below hb1).lt
      go_wp2_with fail
      refine (HFl.out w1 hb1).mono ?_
      rintro e w2 ⟨rfl, hS2, hg2⟩
      have HS2 := hide hS2
      clear hS2
      go_wp2
      go_ret
      exact ⟨(grown_of_below hb1).trans hg2, [], d, ⟨none, 0, rfl, own_nil _ _ _ _⟩, Nat.le_refl _, by simp, ⟨Nat.le_refl _, hd⟩, HS2.out⟩
    · rw [if_neg hd2]
      have hff := prs_fact hv F 2 (i + 1) (d + 1) hi1 (fun e => absurd e (by omega))
      have HCal := hide (show ∀ W' : World, Below W.heap.size W W' → Calls Tryz.prog 52 _ ((W'.setCell ⟨P, 1, none⟩ (.int .i64 ((i + 1 : Nat) : Int))).setCell ⟨P, 2, none⟩ (.int .i64 ((d + 1 : Nat) : Int))) (fun e2 w2 => ∃ (B2 : Option Addr) (n2 : Nat) (fs : List Nd) (k d3 : Nat) (x2 : Int), e2 = .returned (.slice B2 fs.length n2) ∧ w2.ownsRow W.heap.size 53 6 (.slice B2 fs.length n2) fs.length (ndCells fs) ∧ PSt XT w2 P A ts c k (d3 + 1) x2 ∧ W.grownBy w2 (some P) ∧ i + 1 ≤ k ∧ k < ts.length ∧ fs.length ≤ k - (i + 1) ∧
          ((x2 = 0 ∧ d3 = d ∧ i + 1 < k ∧ prs ts F 2 (i + 1) (d + 1) = .ok fs k) ∨ (x2 ≠ 0 ∧ prs ts F 2 (i + 1) (d + 1) = .err x2 k ∧ d ≤ d3 ∧ d3 ≤ k))) from fun W' hb =>
        (HN.out _ (i + 1) (d + 1) (((HS.out.below hb).setAt (i + 1)).setDepth (d + 1)) hi1 (by omega) (fun e => absurd e (by omega)) (by omega)).mono fun e2 w2 h => by
          obtain ⟨B2, n2, fs, k, d2, x2, h1, h2, h3, h4, h5, h6, h7, h8⟩ := ppost_open hff h
          have hgg := gr_set (gr_set (grown_of_below (r := some P) hb) 1 (.int .i64 ((i + 1 : Nat) : Int))) 2 (.int .i64 ((d + 1 : Nat) : Int))
          obtain ⟨d3, rfl⟩ : ∃ d3, d2 = d3 + 1 := ⟨d2 - 1, by rcases h8 with h8 | h8 <;> omega⟩
          exact ⟨B2, n2, fs, k, d3, x2, h1, own_low h2 hgg.size, h3, hgg.trans h4, h5, h6, h7, by rcases h8 with ⟨q1, q2, q3, q4⟩ | ⟨q1, q2, q3⟩; exact .inl ⟨q1, by omega, q3, q4⟩; exact .inr ⟨q1, q2, by omega, by omega⟩⟩)
      clear hff
      generalize prs ts F 2 (i + 1) (d + 1) = r at *
      obtain ⟨i0, hi0, hz0, hz1, hz2⟩ := info_parts Tryz.info_nd
      unfold wNot at *
      go_enter Tryz.func52, Tryz.ntmps52
      go_wp2_with fail
      refine HI.out.mono ?_
      rintro e w1 ⟨rfl, hb1⟩
      obtain ⟨c0, c1, c2, c3⟩ := (HS.out.below hb1).cells
      have hP1 := (HS.out.below hb1).lt
      have hfr := (HS.out.below hb1).free
      go_wp2_with fail
      refine (HCal.out w1 hb1).mono ?_
      rintro e2 w2 ⟨B2, n2, fs, k, d3, x2, rfl, ho2, hS2, hg2, hjk, hkl, hfl, hD2⟩
      have hd3 : d3 ≤ 1000000 := by rcases hD2 with ⟨_, q2, _⟩ | ⟨_, _, _, q2⟩ <;> omega
      have HS2 := hide hS2
      have HG2 := hide hg2
      have HD2 := hide hD2
      have hgs := hg2.size
      clear hS2 hg2 hD2 c0 c1 c2 c3 hfr hP1 HCal
      go_wp2_with (at_builtin; refine wpList_append_own _ rfl _ _ 30 rfl W.heap.size 53 i0 _ 6 64 Tryz.underlying30 hi0 hz0 hz1 hz2 rfl (by decide) _ _ _ rfl (ho2.alloc _) ⟨w2.heap.size, 0, none⟩ 1 1 [.int .i64 2, .int .i64 0, .int .i64 0, str [], str [], .int .i64 0] rfl rfl (by exact cells_6 (heap_alloc_new _ _)) (by simp [Value.oneCell']) (by unfold maxLen; omega) (by omega) (by simp; omega) ?_; intro v4 w4 o4 g4 _; obtain ⟨B4, n4, rfl⟩ := own_form o4; have HS4 := hide ((HS2.out.below (Below.alloc (Below.refl _ _) (Nat.le_refl _) _)).gr g4 (fun j hj => Nat.lt_of_lt_of_le hP (ho2.lt j hj).1)); have HG4 := hide ((gr_bel HG2.out (Below.alloc (Below.refl _ _) (Nat.le_refl _) _)).andThen g4 (fun j hj => .inl (ho2.lt j hj).1)); have HO4 := hide o4; clear o4 g4; obtain ⟨k0, k1, k2, k3⟩ := HS4.out.cells; have kf := HS4.out.free; have kP := HS4.out.lt)
      have HO5 := hide (own_fr (own_nd1 (nd := opNd 2) HO4.out) (gr_set (World.grownBy.refl w4 (some P)) 2 (.int .i64 (d3 : Int))) hP)
      have HS5 := hide (HS4.out.setDepth d3)
      have HG5 := hide (gr_set HG4.out 2 (.int .i64 (d3 : Int)))
      clear k0 k1 k2 k3 kf
      go_ret
      rcases HD2.out with ⟨e1, e2, e3, e4⟩ | ⟨e1, e4, e5⟩
      · rw [e4]
        subst e1 e2
        exact ⟨HG5.out, ⟨B4, n4, by first | rfl | (simp; done), HO5.out⟩, HS5.out⟩
      · rw [e4]
        exact ⟨HG5.out, fs ++ [opNd 2], d3, ⟨B4, n4, by first | rfl | (simp; done), HO5.out⟩, by omega, by simp only [List.length_append, List.length_singleton]; omega, e5, HS5.out⟩
  · rw [if_neg hw]
    have hb : ((tk ts i).kind == 1 && (tk ts i).text == wNot) = false := by
      have : isWord (tk ts i) wNot = false := by simpa using hw
      exact this
    rw [hb] at HI
    clear hb hw
    unfold wNot at *
    go_enter Tryz.func52, Tryz.ntmps52
    go_wp2_with fail
    refine HI.out.mono ?_
    rintro e w1 ⟨rfl, hb1⟩
    go_wp2_with fail
    refine (HC.out w1 i d (HS.out.below hb1) hi hd (by omega) (by omega)).mono ?_
    intro e2 w2 h2
    obtain ⟨v, rfl⟩ := h2.ret
    have HR := hide (h2.up (grown_of_below hb1))
    clear h2
    go_wp2
    go_ret
    exact HR.out
end Go.Proofs.YtlfedcbihbigoaaGreatDoor

namespace Go.Proofs.YtlfedcbihbigoaaGreatDoor
open Go.RowKit
theorem tk_num {ts : List Tok} (hv : valT ts = true) {i : Nat} (h : i < ts.length) (hk : (tk ts i).kind = 2) : 0 ≤ (tk ts i).num ∧ (tk ts i).num ≤ 1073741824 := by
  have := tk_ok hv h
  unfold Tok.ok at this
  rw [hk, okTok_2] at this
  simp only [Bool.and_eq_true, decide_eq_true_eq] at this
  exact this.2
set_option maxRecDepth 100000 in
set_option maxHeartbeats 2000000 in
theorem p_unary (F P : Nat) (A : Option Addr) (ts : List Tok) (c : Nat) (hv : valT ts = true) (hlen : ts.length ≤ 1000000) (hU : LvC 123 F 7 P A ts c) (hPr : LvC 153 F 8 P A ts c) : LvC 123 (F + 1) 7 P A ts c := by
  intro W i d hS hi hd _ hF
  rw [prs_7]
  have hP := hS.lt
  have HB := hide (p_begins W P A ts c i d 0 hS hv hi hlen)
  obtain ⟨c0, c1, c2, c3⟩ := hS.cells
  have HS := hide hS
  have HU := hide hU
  have HPr := hide hPr
  clear hS hU hPr
  by_cases hb : begB ts i = false
  · rw [if_pos hb]
    rw [hb] at HB
    clear hb
    have HFl := hide (fun W' (hb : Below W.heap.size W W') => p_fail W' P A ts c i d (HS.out.below hb) 3)
    go_enter Tryz.func123, Tryz.ntmps123
    go_wp2_with fail
    refine HB.out.mono ?_
    rintro e w1 ⟨rfl, hb1⟩
    go_wp2_with fail
    refine (HFl.out w1 hb1).mono ?_
    rintro e w2 ⟨rfl, hS2, hg2⟩
    have HS2 := hide hS2
    clear hS2
    go_wp2
    go_ret
    exact ⟨(grown_of_below hb1).trans hg2, [], d, ⟨none, 0, rfl, own_nil _ _ _ _⟩, Nat.le_refl _, by simp, ⟨Nat.le_refl _, hd⟩, HS2.out⟩
  rw [if_neg hb]
  have hbt : begB ts i = true := by simpa using hb
  rw [hbt] at HB
  have hi1 := tk_next hv hi (beg_kind hbt)
  clear hb
  by_cases hd2 : 256 < d
  · rw [if_pos hd2]
    have HFl := hide (fun W' (hb : Below W.heap.size W W') => p_fail W' P A ts c i d (HS.out.below hb) 2)
    have HCl := hide (fun W' (hb : Below W.heap.size W W') => (HS.out.below hb).cells)
    go_enter Tryz.func123, Tryz.ntmps123
    go_wp2_with fail
    refine HB.out.mono ?_
    rintro e w1 ⟨rfl, hb1⟩
    obtain ⟨k0, k1, k2, k3⟩ := HCl.out w1 hb1
    go_wp2_with fail
    refine (HFl.out w1 hb1).mono ?_
    rintro e w2 ⟨rfl, hS2, hg2⟩
    have HS2 := hide hS2
    clear hS2 k0 k1 k2 k3
    go_wp2
    go_ret
    exact ⟨(grown_of_below hb1).trans hg2, [], d, ⟨none, 0, rfl, own_nil _ _ _ _⟩, Nat.le_refl _, by simp, ⟨Nat.le_refl _, hd⟩, HS2.out⟩
  rw [if_neg hd2]
  have HCl := hide (fun W' (hb : Below W.heap.size W W') => (HS.out.below hb).cells)
  by_cases hm : isSym (tk ts i) [45] = true
  rotate_left
  · rw [if_neg hm]
    have hmb : ((0 : Int) == 0 && ((tk ts i).kind == 5 && (tk ts i).text == [45])) = false := by
      have : isSym (tk ts i) [45] = false := by simpa using hm
      exact this
    have HSk := hide (fun W' (hb : Below W.heap.size W W') => p_skip_no W' P A ts c i d 0 (HS.out.below hb) hi hlen 5 [45] hmb)
    clear hmb hm
    go_enter Tryz.func123, Tryz.ntmps123
    go_wp2_with fail
    refine HB.out.mono ?_
    rintro e w1 ⟨rfl, hb1⟩
    obtain ⟨k0, k1, k2, k3⟩ := HCl.out w1 hb1
    go_wp2_with fail
    refine (HSk.out w1 hb1).mono ?_
    rintro e w2 ⟨rfl, hb2⟩
    have hb3 := bel2 hb2 hb1
    clear k0 k1 k2 k3
    go_wp2_with fail
    refine (HPr.out w2 i d (HS.out.below hb3) hi hd (fun _ => hbt) (by omega)).mono ?_
    intro e2 w3 h3
    obtain ⟨v, rfl⟩ := h3.ret
    have HR := hide (h3.up (grown_of_below hb3))
    clear h3
    go_wp2
    go_ret
    exact HR.out
  rw [if_pos hm]
  have HSk := hide (fun W' (hb : Below W.heap.size W W') => p_skip_yes W' P A ts c i d (HS.out.below hb) hi hlen 5 [45] hm)
  clear hm hbt
  by_cases hk : (tk ts (i + 1)).kind = 2
  · rw [if_pos hk]
    have hnb := tk_num hv hi1 hk
    go_enter Tryz.func123, Tryz.ntmps123
    go_wp2_with fail
    refine HB.out.mono ?_
    rintro e w1 ⟨rfl, hb1⟩
    obtain ⟨k0, k1, k2, k3⟩ := HCl.out w1 hb1
    go_wp2_with fail
    refine (HSk.out w1 hb1).mono ?_
    rintro e w2 ⟨rfl, hS2, hg2⟩
    clear k0 k1 k2 k3 c0 c1 c2 c3
    obtain ⟨c0, c1, c2, c3⟩ := hS2.cells
    have hP2 := hS2.lt
    have hfr := hS2.free
    obtain ⟨g, off, rfl, hgP, t0, t1, t2, t3⟩ := hS2.tok.at_ hi1
    have hg : g < w2.heap.size := Nat.lt_trans hgP hP2
    have HS2 := hide hS2
    have HG2 := hide ((grown_of_below hb1).trans hg2)
    clear hS2 hg2 HB HSk HCl
    generalize tk ts (i + 1) = t at *
    obtain ⟨tk0, tk1, tk2, tk3⟩ := t
    simp only at t0 t1 t2 t3 hk hnb
    subst hk
    obtain ⟨nb1, nb2⟩ := hnb
    go_wp2
    go_region
    go_wp2_with fail
    refine (p_constant ⟨2, -tk2, []⟩ _).mono ?_
    rintro e3 w3 ⟨⟨B, n, rfl, ho⟩, hb3⟩
    have HS3 := hide (((HS2.out.setAt (i + 1 + 1)).below (by (repeat (first | exact Below.refl _ _ | assumption | refine Below.drew ?_ | refine below_drewN ?_ _ | refine Below.alloc ?_ (by first | omega | simp <;> omega) _ | refine Below.setCell ?_ (by first | omega | simp <;> omega) _)))).below hb3)
    have HG3 := hide (gr_bel (gr_bel (gr_set HG2.out 1 (.int .i64 ((i + 1 + 1 : Nat) : Int))) (by (repeat (first | exact Below.refl _ _ | assumption | refine Below.drew ?_ | refine below_drewN ?_ _ | refine Below.alloc ?_ (by first | omega | simp <;> omega) _ | refine Below.setCell ?_ (by first | omega | simp <;> omega) _)))) hb3)
    have HO3 := hide (own_low ho (b2 := W.heap.size) (by have := HG2.out.size; simp; omega))
    clear ho c0 c1 c2 c3 t0 t1 t2 t3
    go_wp2
    go_ret
    exact ⟨HG3.out, ⟨B, n, rfl, HO3.out⟩, HS3.out⟩
  rw [if_neg hk]
  have hkb : ((tk ts (i + 1)).kind == 2) = false := beq_eq_false_iff_ne.2 hk
  have hff := prs_fact hv F 7 (i + 1) (d + 1) hi1 (fun e => absurd e (by omega))
  obtain ⟨i0, hi0, hz0, hz1, hz2⟩ := info_parts Tryz.info_nd
  have HCal := hide (show ∀ w2 : World, PSt XT w2 P A ts c (i + 1) d 0 → W.grownBy w2 (some P) → ∀ X : World, Below (w2.setCell ⟨P, 2, none⟩ (.int .i64 ((d + 1 : Nat) : Int))).heap.size (w2.setCell ⟨P, 2, none⟩ (.int .i64 ((d + 1 : Nat) : Int))) X → Calls Tryz.prog 123 _ X (fun e2 w2 => ∃ (B2 : Option Addr) (n2 : Nat) (fs : List Nd) (k d3 : Nat) (x2 : Int), e2 = .returned (.slice B2 fs.length n2) ∧ w2.ownsRow W.heap.size 53 6 (.slice B2 fs.length n2) fs.length (ndCells fs) ∧ PSt XT w2 P A ts c k (d3 + 1) x2 ∧ W.grownBy w2 (some P) ∧ i + 1 ≤ k ∧ k < ts.length ∧ fs.length ≤ k - (i + 1) ∧
      ((x2 = 0 ∧ d3 = d ∧ i + 1 < k ∧ prs ts F 7 (i + 1) (d + 1) = .ok fs k) ∨ (x2 ≠ 0 ∧ prs ts F 7 (i + 1) (d + 1) = .err x2 k ∧ d ≤ d3 ∧ d3 ≤ k))) from fun w2 hs2 hg2 X hb =>
    (HU.out X (i + 1) (d + 1) ((hs2.setDepth (d + 1)).below hb) hi1 (by omega) (fun e => absurd e (by omega)) (by omega)).mono fun e2 w2 h => by
      obtain ⟨B2, n2, fs, k, d2, x2, h1, h2, h3, h4, h5, h6, h7, h8⟩ := ppost_open hff h
      have hgg := gr_bel (gr_set hg2 2 (.int .i64 ((d + 1 : Nat) : Int))) hb
      obtain ⟨d3, rfl⟩ : ∃ d3, d2 = d3 + 1 := ⟨d2 - 1, by rcases h8 with h8 | h8 <;> omega⟩
      exact ⟨B2, n2, fs, k, d3, x2, h1, own_low h2 hgg.size, h3, hgg.trans h4, h5, h6, h7, by rcases h8 with ⟨q1, q2, q3, q4⟩ | ⟨q1, q2, q3⟩; exact .inl ⟨q1, by omega, q3, q4⟩; exact .inr ⟨q1, q2, by omega, by omega⟩⟩)
  clear hff
  generalize prs ts F 7 (i + 1) (d + 1) = r at *
  go_enter Tryz.func123, Tryz.ntmps123
  go_wp2_with fail
  refine HB.out.mono ?_
  rintro e w1 ⟨rfl, hb1⟩
  obtain ⟨k0, k1, k2, k3⟩ := HCl.out w1 hb1
  go_wp2_with fail
  refine (HSk.out w1 hb1).mono ?_
  rintro e w2 ⟨rfl, hS2, hg2⟩
  clear k0 k1 k2 k3 c0 c1 c2 c3
  obtain ⟨c0, c1, c2, c3⟩ := hS2.cells
  have hP2 := hS2.lt
  have hfr := hS2.free
  obtain ⟨g, off, rfl, hgP, t0, t1, t2, t3⟩ := hS2.tok.at_ hi1
  have hg : g < w2.heap.size := Nat.lt_trans hgP hP2
  have HCl2 := hide (HCal.out w2 hS2 ((grown_of_below hb1).trans hg2))
  clear hS2 hg2 HB HSk HCl hk HCal
  generalize tk ts (i + 1) = t at *
  obtain ⟨tk0, tk1, tk2, tk3⟩ := t
  simp only at t0 t1 t2 t3 hkb
  go_wp2
  go_region
  go_wp2_with fail
  refine (HCl2.out _ (by (repeat (first | exact Below.refl _ _ | assumption | refine Below.drew ?_ | refine below_drewN ?_ _ | refine Below.alloc ?_ (by first | omega | simp <;> omega) _ | refine Below.setCell ?_ (by first | omega | simp <;> omega) _)))).mono ?_
  rintro e2 w3 ⟨B2, n2, fs, k, d3, x2, rfl, ho2, hS3, hg3, hjk, hkl, hfl, hD2⟩
  have hd3 : d3 ≤ 1000000 := by rcases hD2 with ⟨_, q2, _⟩ | ⟨_, _, _, q2⟩ <;> omega
  have HS3 := hide hS3
  have HG3 := hide hg3
  have HD2 := hide hD2
  have hgs := hg3.size
  clear hS3 hg3 hD2 c0 c1 c2 c3 hfr HCl2 t0 t1 t2 t3
  go_wp2_with (at_builtin; refine wpList_append_own _ rfl _ _ 30 rfl W.heap.size 53 i0 _ 6 64 Tryz.underlying30 hi0 hz0 hz1 hz2 rfl (by decide) _ _ _ rfl (ho2.alloc _) ⟨w3.heap.size, 0, none⟩ 1 1 [.int .i64 3, .int .i64 0, .int .i64 0, str [], str [], .int .i64 0] rfl rfl (by exact cells_6 (heap_alloc_new _ _)) (by simp [Value.oneCell']) (by unfold maxLen; omega) (by omega) (by simp; omega) ?_; intro v4 w4 o4 g4 _; obtain ⟨B4, n4, rfl⟩ := own_form o4; have HS4 := hide ((HS3.out.below (Below.alloc (Below.refl _ _) (Nat.le_refl _) _)).gr g4 (fun j hj => Nat.lt_of_lt_of_le hP (ho2.lt j hj).1)); have HG4 := hide ((gr_bel HG3.out (Below.alloc (Below.refl _ _) (Nat.le_refl _) _)).andThen g4 (fun j hj => .inl (ho2.lt j hj).1)); have HO4 := hide o4; clear o4 g4; obtain ⟨k0, k1, k2, k3⟩ := HS4.out.cells; have kf := HS4.out.free; have kP := HS4.out.lt)
  have HO5 := hide (own_fr (own_nd1 (nd := opNd 3) HO4.out) (gr_set (World.grownBy.refl w4 (some P)) 2 (.int .i64 (d3 : Int))) hP)
  have HS5 := hide (HS4.out.setDepth d3)
  have HG5 := hide (gr_set HG4.out 2 (.int .i64 (d3 : Int)))
  clear k0 k1 k2 k3 kf
  go_ret
  rcases HD2.out with ⟨e1, e2, e3, e4⟩ | ⟨e1, e4, e5⟩
  · rw [e4]
    subst e1 e2
    exact ⟨HG5.out, ⟨B4, n4, by first | rfl | (simp; done), HO5.out⟩, HS5.out⟩
  · rw [e4]
    exact ⟨HG5.out, fs ++ [opNd 3], d3, ⟨B4, n4, by first | rfl | (simp; done), HO5.out⟩, by omega, by simp only [List.length_append, List.length_singleton]; omega, e5, HS5.out⟩
end Go.Proofs.YtlfedcbihbigoaaGreatDoor
