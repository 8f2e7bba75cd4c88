/- Contract, told: base.Query. Contract, told: law11.made. -/
import Derived.Test.YtmbeeefkpgfgmaaGreatDoorPq29
import Derived.Deep.Cut
import Derived.Test.YtmbeeefkpgfgmaaGreatDoorPq31
import Derived.Deep.AppendLies
import Derived.Deep.RegionHeld3
import Derived.RegionTactic
import Derived.ChangeAlike
import Derived.BigRegion
import Derived.Test.YtmbeeefkpgfgmaaGreatDoorPq07
import Derived.Test.YtmbeeefkpgfgmaaGreatDoorPq06
import Derived.Laws.AppendOwnNone
set_option linter.unusedVariables false
set_option linter.unusedSimpArgs false
namespace Go.Proofs.YtmbeeefkpgfgmaaGreatDoor
open Go.RowKit
def rel0 : Rel := ⟨[], []⟩
noncomputable def stpD (cs : List Col) (rs : List Rel) (l : List Int) (i : Int) : Stp := by
  classical
  exact if h : StepTold cs rs l i then h.choose else stp0
theorem stpD_spec {cs : List Col} {rs : List Rel} {l : List Int} {i : Int} (h : StepTold cs rs l i) : (stpD cs rs l i).ok ∧ (stpD cs rs l i).op ≠ 0 ∧ (∀ x ∈ (stpD cs rs l i).items, nmB x.name = true) ∧
    ∀ (C : Option Addr) (cc : Nat) (R : Option Addr) (rc : Nat) (L : Option Addr) (lc : Nat) (w : World), ColsAt w C cs → RelsAt w R rs → IntsAt w L l →
    Calls Tryz.prog 83 #[.slice C cs.length cc, .slice R rs.length rc, .slice L l.length lc, .int .i64 i] w fun e w' => StpR (stpD cs rs l i) w' e ∧ Below w.heap.size w w' := by
  unfold stpD
  rw [dif_pos h]
  exact h.choose_spec
def qryF (rs : List Rel) (l : List Int) : Rel := rs.getD (lAt l 0 % (rs.length : Int)).toNat rel0
noncomputable def qry (rs : List Rel) (l : List Int) : Nat → List Stp × List Col
  | 0 => ([⟨0, (qryF rs l).name, [], [], [], []⟩], (qryF rs l).cols)
  | k + 1 =>
    let p := qry rs l k
    let s := stpD p.2 rs l (4 * ((k : Int) + 1))
    let r := stepC p.2 s (fndS rs s.src)
    if r.2 = 0 then (p.1 ++ [s], r.1) else p
theorem qryF_mem {rs : List Rel} (l : List Int) (hr : RelG rs) : qryF rs l ∈ rs := by
  have hp := hr.pos
  have h0 := Int.emod_nonneg (lAt l 0) (show (rs.length : Int) ≠ 0 by omega)
  have h1 := Int.emod_lt_of_pos (lAt l 0) (show (0 : Int) < rs.length by omega)
  have hm : (lAt l 0 % (rs.length : Int)).toNat < rs.length := by omega
  unfold qryF
  rw [List.getD_eq_getElem?_getD, List.getElem?_eq_getElem hm]
  exact List.getElem_mem hm
theorem itemsS_le {its : List It} {least : Nat} {fB cB nB eB : Bool} {own : It → Int} (h : itemsS its least fB cB nB eB own = 0) : its.length ≤ 12 := by
  unfold itemsS at h
  split at h
  · cases h
  · omega
theorem thenE_zero {a b : Int} (h : thenE a b = 0) : a = 0 ∧ b = 0 := by
  unfold thenE at h
  split at h
  · exact ⟨by assumption, h⟩
  · exact absurd h (by assumption)
theorem items_le {s : Stp} (h : stepS s = 0) : s.items.length ≤ 12 := by
  unfold stepS at h
  split at h
  · cases h
  · rename_i hn
    have hu : unusedB s.op s.src s.names.length s.others.length s.items.length s.cond.length = false := by
      cases e : unusedB s.op s.src s.names.length s.others.length s.items.length s.cond.length
      · rfl
      · exact absurd (.inr (.inr e)) hn
    by_cases hi : s.op = 2 ∨ s.op = 4 ∨ s.op = 5 ∨ s.op = 11 ∨ s.op = 12
    · unfold opS at h
      rcases hi with e | e | e | e | e <;> rw [e] at h <;> simp at h
      · exact itemsS_le h
      · unfold joinS at h
        exact itemsS_le (thenE_zero (thenE_zero (thenE_zero (thenE_zero h).2).2).2).2
      · unfold joinS at h
        exact itemsS_le (thenE_zero (thenE_zero (thenE_zero (thenE_zero h).2).2).2).2
      · unfold groupS at h
        have h2 := (thenE_zero h).2
        split at h2
        · cases h2
        · exact itemsS_le h2
      · unfold windowS at h
        exact itemsS_le (thenE_zero (thenE_zero h).2).2
    · have hz : s.items.length = 0 := by
        unfold unusedB at hu
        simp only [Bool.or_eq_false_iff, Bool.and_eq_false_iff, Bool.not_eq_false', bne_eq_false_iff_eq, Bool.or_eq_true, beq_iff_eq] at hu
        omega
      omega
structure QryG (rs : List Rel) (l : List Int) (k : Nat) : Prop where
  cols : ColG (qry rs l k).2
  ok : StsOk (qry rs l k).1
  len : (qry rs l k).1.length ≤ k + 1
  head : ∃ rest, (qry rs l k).1 = ⟨0, (qryF rs l).name, [], [], [], []⟩ :: rest
  its : ∀ s ∈ (qry rs l k).1, s.items.length ≤ 12
theorem qry_good {rs : List Rel} (l : List Int) (hr : RelG rs) : ∀ k : Nat, k ≤ 100 → QryG rs l k
  | 0, _ => by
    have hm := qryF_mem l hr
    refine ⟨hr.cols _ hm, fun s hs => ?_, by simp [qry], ⟨[], rfl⟩, fun s hs => by simp only [qry, List.mem_cons, List.not_mem_nil, or_false] at hs; subst hs; exact Nat.zero_le _⟩
    simp only [qry, List.mem_cons, List.not_mem_nil, or_false] at hs
    subst hs
    exact ⟨Nat.le_trans (hr.names _ hm) (by unfold maxLen; omega), Nat.zero_le _, Nat.zero_le _, Nat.zero_le _, fun x hx => (List.not_mem_nil hx).elim, Nat.zero_le _, fun x hx => (List.not_mem_nil hx).elim⟩
  | k + 1, hk => by
    have ih := qry_good l hr k (by omega)
    have hT := step_told _ rs l (4 * ((k : Int) + 1)) ih.cols hr (by omega) (by omega)
    obtain ⟨h1, h2, h3, _⟩ := stpD_spec hT
    have e : qry rs l (k + 1) = if (stepC (qry rs l k).2 (stpD (qry rs l k).2 rs l (4 * ((k : Int) + 1))) (fndS rs (stpD (qry rs l k).2 rs l (4 * ((k : Int) + 1))).src)).2 = 0 then ((qry rs l k).1 ++ [stpD (qry rs l k).2 rs l (4 * ((k : Int) + 1))], (stepC (qry rs l k).2 (stpD (qry rs l k).2 rs l (4 * ((k : Int) + 1))) (fndS rs (stpD (qry rs l k).2 rs l (4 * ((k : Int) + 1))).src)).1) else qry rs l k := rfl
    generalize hs : stpD (qry rs l k).2 rs l (4 * ((k : Int) + 1)) = s at *
    by_cases h0 : (stepC (qry rs l k).2 s (fndS rs s.src)).2 = 0
    · rw [if_pos h0] at e
      obtain ⟨rest, hrest⟩ := ih.head
      have hgd := step_good (cs' := (stepC (qry rs l k).2 s (fndS rs s.src)).1) ih.cols h3 h2 (by rw [← h0])
      refine ⟨by rw [e]; exact hgd.1, fun x hx => ?_, by rw [e]; have := ih.len; simp; omega, ⟨rest ++ [s], by rw [e]; show (qry rs l k).1 ++ [s] = _; rw [hrest]; rfl⟩, fun x hx => ?_⟩
      rotate_left
      · rw [e] at hx
        rcases List.mem_append.1 hx with hx | hx
        · exact ih.its _ hx
        · simp at hx
          subst hx
          refine items_le ?_
          by_cases h9 : stepS x = 0
          · exact h9
          · unfold stepC at h0
            rw [if_pos h9] at h0
            exact h0
      rw [e] at hx
      rcases List.mem_append.1 hx with hx | hx
      · exact ih.ok _ hx
      · simp at hx; subst hx; exact h1
    · rw [if_neg h0] at e
      exact ⟨by rw [e]; exact ih.cols, by rw [e]; exact ih.ok, by rw [e]; have := ih.len; omega, by rw [e]; exact ih.head, by rw [e]; exact ih.its⟩
theorem fnd_len (x : Bytes) : ∀ (l : List Rel), (∀ r ∈ l, ColG r.cols) → (fndS l x).length ≤ 1000
  | [], _ => Nat.zero_le _
  | r :: l, hl => by
    unfold fndS
    split
    · have := (hl r (by simp)).le; omega
    · exact fnd_len x l (fun q hq => hl q (by simp [hq]))
def RelsF (w : World) (A : Option Addr) (rs : List Rel) : Prop := ∃ g off, A = some ⟨g, off, none⟩ ∧ ∀ i (h : i < rs.length), ∃ (C : Option Addr) (c : Nat), Firm (fun W => g < W.heap.size ∧
    W.cell? ⟨g, off + i * 4, none⟩ = some (str rs[i].name) ∧ W.cell? ⟨g, off + i * 4 + 1, none⟩ = some (.slice C rs[i].cols.length c) ∧ W.cell? ⟨g, off + i * 4 + 2, none⟩ = some (.slice none 0 0) ∧ W.cell? ⟨g, off + i * 4 + 3, none⟩ = some (.slice none 0 0) ∧ ColsAt W C rs[i].cols) w
theorem RelsF.at {w : World} {A : Option Addr} {rs : List Rel} (h : RelsF w A rs) (hp : 0 < rs.length) : RelsAt w A rs := by
  obtain ⟨g, off, rfl, hc⟩ := h
  obtain ⟨C0, c0, h0⟩ := hc 0 hp
  refine .inr ⟨g, off, rfl, h0.now.1, fun i hi => ?_⟩
  obtain ⟨C, c, h⟩ := hc i hi
  exact ⟨C, c, h.now.2⟩
theorem RelsF.below {w w' : World} {A : Option Addr} {rs : List Rel} (h : RelsF w A rs) (hb : Below w.heap.size w w') : RelsF w' A rs := by
  obtain ⟨g, off, rfl, hc⟩ := h
  refine ⟨g, off, rfl, fun i hi => ?_⟩
  obtain ⟨C, c, h⟩ := hc i hi
  exact ⟨C, c, h.below hb⟩
set_option maxRecDepth 100000 in
set_option maxHeartbeats 4000000 in
theorem base_Query_any (rs : List Rel) (hr : RelG rs) (l : List Int) (n : Nat) (hn : 1 ≤ n) (hn2 : n ≤ 50) (R : Option Addr) (rc : Nat) (L : Option Addr) (lc : Nat) (w : World) (hR : RelsF w R rs) (hL : IntsAt w L l) :
    Calls Tryz.prog 34 #[.slice R rs.length rc, .slice L l.length lc, .int .i64 (n : Int)] w fun e w' => (∃ (A : Option Addr) (c : Nat), e = .returned (.slice A (qry rs l (n - 1)).1.length c) ∧ StepsRow w' w.heap.size A c (qry rs l (n - 1)).1) ∧ Below w.heap.size w w' := by
  have hrp := hr.pos
  have hrl := hr.le
  obtain ⟨is, hi, hz0, hz1, hz2⟩ := info_parts Tryz.info_step
  have HR := hide hR
  have HL := hide hL
  have HA1 := hide (fun W (hb : Below w.heap.size w W) => at_below L l 0 W lc (hL.below hb))
  obtain ⟨m, hm, hml⟩ : ∃ m : Nat, lAt l 0 % (rs.length : Int) = m ∧ m < rs.length := ⟨(lAt l 0 % (rs.length : Int)).toNat, by have := Int.emod_nonneg (lAt l 0) (show (rs.length : Int) ≠ 0 by omega); omega, by have := Int.emod_lt_of_pos (lAt l 0) (show (0 : Int) < rs.length by omega); have := Int.emod_nonneg (lAt l 0) (show (rs.length : Int) ≠ 0 by omega); omega⟩
  have HQ0 := hide (show qry rs l 0 = ([⟨0, rs[m].name, [], [], [], []⟩], rs[m].cols) from by
    have e : qryF rs l = rs[m] := by unfold qryF; rw [hm, Int.toNat_natCast, List.getD_eq_getElem?_getD, List.getElem?_eq_getElem hml]; rfl
    show ([(⟨0, (qryF rs l).name, [], [], [], []⟩ : Stp)], (qryF rs l).cols) = _
    rw [e])
  have n0 := lAt_nn l 0
  have n1 := lAt_top l 0
  have HG := hide (fun k (hk : k ≤ 100) => qry_good l hr k hk)
  have HT := hide (fun cs i (hc : ColG cs) (h0 : 0 ≤ i) (h1 : i ≤ 1000) => stpD_spec (step_told cs rs l i hc hr h0 h1))
  have HFL := hide (fun x => fnd_len x rs hr.cols)
  have hb0 : (0 : Int) ≤ (m : Int) ∧ (m : Int) < (rs.length : Int) := by omega
  have hz : ¬ (rs.length : Int) = 0 := by omega
  obtain ⟨g, off, rfl, hc⟩ := hR
  obtain ⟨D, dc, hFm⟩ := hc m hml
  have HFm := hide hFm
  clear hFm hc hL hr
  have HRl := hide (fun W (hb : Below w.heap.size w W) => (HR.out.below hb).at hrp)
  generalize hrm : rs[m] = rel at *
  clear hrm
  obtain ⟨rn, rcs⟩ := rel
  simp only at HFm HQ0
  generalize hk0 : lAt l 0 = k0 at *
  clear hk0
  go_enter Tryz.func34, Tryz.ntmps34
  go_wp2_with (go_at_call 70; refine (HA1.out _ zX).mono ?_; rintro e w1 ⟨rfl, hb1⟩; obtain ⟨hg9, t0, t1, t2, t3, hD9⟩ := (HFm.out.below hb1).now)
  have hw2 : Below w.heap.size w (w1.alloc (.cells #[str rn, .slice D rcs.length dc, .slice none 0 0, .slice none 0 0] 68)) := hb1.alloc hb1.size _
  have u0 : (w1.alloc (.cells #[str rn, .slice D rcs.length dc, .slice none 0 0, .slice none 0 0] 68)).cell? ⟨w1.heap.size, 0, none⟩ = some (str rn) := by simp [go_sem]
  have u1 : (w1.alloc (.cells #[str rn, .slice D rcs.length dc, .slice none 0 0, .slice none 0 0] 68)).cell? ⟨w1.heap.size, 1, none⟩ = some (.slice D rcs.length dc) := by simp [go_sem]
  have u9 : w1.heap.size < (w1.alloc (.cells #[str rn, .slice D rcs.length dc, .slice none 0 0, .slice none 0 0] 68)).heap.size := by simp
  clear t0 t1 t2 t3 hD9 hg9
  generalize w1.alloc (.cells #[str rn, .slice D rcs.length dc, .slice none 0 0, .slice none 0 0] 68) = w2 at *
  go_region_held3 (fun w' => w'.cell? ⟨w1.heap.size, 0, none⟩ = some (str rn) ∧ w'.cell? ⟨w1.heap.size, 1, none⟩ = some (.slice D rcs.length dc)) (go_keep) (fail)
  all_goals
    have hsz2 := hw2.size
    have hown0 : StepsRow (w2.alloc (.cells #[.int .i64 0, str rn, .slice none 0 0, .slice none 0 0, .slice none 0 0, .slice none 0 0] 27)).drew w.heap.size (some ⟨w2.heap.size, 0, none⟩) 1 [⟨0, rn, [], [], [], []⟩] := by
      have o1 := own_fresh (e := 27) (size := 6) (n := 1) (cur := #[.int .i64 0, str rn, .slice none 0 0, .slice none 0 0, .slice none 0 0, .slice none 0 0]) w2 hsz2 (by simp) (by unfold maxLen; omega)
      refine ⟨[⟨none, 0, none, 0, none, 0, none, 0⟩], rfl, own_below o1 (Below.drew (Below.refl _ _)), fun i h h' => ?_⟩
      have hi0 : i = 0 := by simpa using h
      subst hi0
      exact firm_step (firm_none _) (firm_none _) (firm_noIt _) (firm_noNd _) (Nat.le_refl _) (Nat.le_refl _) (Nat.le_refl _)
    have hbD : Below w.heap.size w (w2.alloc (.cells #[.int .i64 0, str rn, .slice none 0 0, .slice none 0 0, .slice none 0 0, .slice none 0 0] 27)).drew := Below.drew (hw2.alloc hsz2 _)
    have hcf0 : Firm (fun W => ColsAt W D rcs) (w2.alloc (.cells #[.int .i64 0, str rn, .slice none 0 0, .slice none 0 0, .slice none 0 0, .slice none 0 0] 27)).drew := (HFm.out.below hbD).mono fun v hv => hv.2.2.2.2.2
    have HRow0 := hide hown0
    have HCf0 := hide hcf0
    clear hown0 hcf0 u0 u1 u9
    generalize (w2.alloc (.cells #[.int .i64 0, str rn, .slice none 0 0, .slice none 0 0, .slice none 0 0, .slice none 0 0] 27)).drew = w3 at *
    generalize w2.heap.size = B0 at *
    generalize hnI : (n : Int) = nI at *
    have HnI := hide hnI
    have hnI1 : (1 : Int) ≤ nI := by omega
    have hnI2 : nI ≤ 50 := by omega
    clear hnI
    go_wp2
    go_loopw [8, 9, 10] (fun s8 s9 s10 wr => ∃ (k : Nat) (A : Option Addr) (c : Nat) (Cc : Option Addr) (cc : Nat), k + 1 ≤ n ∧ s8 = .slice A (qry rs l k).1.length c ∧ s9 = .slice Cc (qry rs l k).2.length cc ∧ s10 = .int .i64 ((k : Int) + 1) ∧ Hid (StepsRow wr w.heap.size A c (qry rs l k).1) ∧ Hid (Firm (fun W => ColsAt W Cc (qry rs l k).2) wr) ∧ Below w.heap.size w wr) (fun _ _ i _ => n - (intOf i).toNat)
    case atStart => exact ⟨0, some ⟨B0, 0, none⟩, 1, D, dc, by omega, by rw [HQ0.out]; rfl, by rw [HQ0.out], by simp, by rw [HQ0.out]; exact HRow0, by rw [HQ0.out]; exact HCf0, hbD⟩
    case round =>
      obtain ⟨k, A, c, Cc, cc, hk, rfl, rfl, rfl, HRow, HCf, hbel⟩ := hrel
      have hsz := hbel.size
      by_cases hlt : k + 1 < n
      · have hltI : (k : Int) + 1 < nI := by have := HnI.out; omega
        have hQ := HG.out k (by omega)
        obtain ⟨hs1, hs2, hs3, hsC⟩ := HT.out (qry rs l k).2 (4 * ((k : Int) + 1)) hQ.cols (by omega) (by omega)
        have HSt := hide (hsC Cc cc _ rc L lc wr HCf.out.now (HRl.out wr hbel) (HL.out.below hbel))
        have HX := hide (show qry rs l (k + 1) = if (stepC (qry rs l k).2 (stpD (qry rs l k).2 rs l (4 * ((k : Int) + 1))) (fndS rs (stpD (qry rs l k).2 rs l (4 * ((k : Int) + 1))).src)).2 = 0 then ((qry rs l k).1 ++ [stpD (qry rs l k).2 rs l (4 * ((k : Int) + 1))], (stepC (qry rs l k).2 (stpD (qry rs l k).2 rs l (4 * ((k : Int) + 1))) (fndS rs (stpD (qry rs l k).2 rs l (4 * ((k : Int) + 1))).src)).1) else qry rs l k from rfl)
        have HCg := hide hQ.cols
        have hql := hQ.len
        have hqc := hQ.cols.le
        clear hsC hQ
        have HOk := hide hs1
        have HOp := hide hs2
        clear hs1 hs2 hs3
        generalize stpD (qry rs l k).2 rs l (4 * ((k : Int) + 1)) = s at *
        generalize qry rs l k = q at *
        obtain ⟨qs, qc⟩ := q
        simp only at HRow HCf HSt HX HCg hql hqc
        have HFd := hide (fun W (hb : Below w.heap.size w W) => ref15_Find_any _ rs rc s.src W (HRl.out W hb) hrl)
        have HStp := hide (fun (a : Adr) (Rr : Option Addr) (rcc : Nat) (W : World) (Z : Option Addr) (zc : Nat) (hb : Below wr.heap.size wr W) (hF : s.At W a) (hD : ColsAt W Rr (fndS rs s.src)) (hZ : ZnsAt W Z zonesL) => ref15_Step_any Cc qc cc s a Rr (fndS rs s.src) rcc Z zc W (HCf.out.below hb) HCg.out hD (HFL.out s.src) hF HOk.out HOp.out hZ)
        generalize hfd : fndS rs s.src = right at *
        have hrl3 : right.length ≤ 1000 := by rw [← hfd]; exact HFL.out s.src
        clear hfd
        generalize hr : stepC qc s right = r at *
        clear hr
        go_upto_region 7 with (go_at_call 83; refine (HSt.out).mono ?_; rintro e w4 ⟨⟨a, rfl, hFs⟩, hb4⟩; have HFs := hide hFs; have hb4w := bel2 hb4 hbel; clear hFs; dsimp only [Stp.agg])
        have h1 : (w4.alloc (.cells #[.int .i64 s.op, str s.src, .slice a.nA s.names.length a.nC, .slice a.oA s.others.length a.oC, .slice a.iA s.items.length a.iC, .slice a.cA s.cond.length a.cC] 27)).heap[w4.heap.size]? = some (.cells #[.int .i64 s.op, str s.src, .slice a.nA s.names.length a.nC, .slice a.oA s.others.length a.oC, .slice a.iA s.items.length a.iC, .slice a.cA s.cond.length a.cC] 27) := heap_alloc_new _ _
        have hb5 : Below wr.heap.size wr (w4.alloc (.cells #[.int .i64 s.op, str s.src, .slice a.nA s.names.length a.nC, .slice a.oA s.others.length a.oC, .slice a.iA s.items.length a.iC, .slice a.cA s.cond.length a.cC] 27)) := hb4.alloc hb4.size _
        have HF5 := hide (HFs.out.below ((Below.refl _ _).alloc (Nat.le_refl _) (.cells #[.int .i64 s.op, str s.src, .slice a.nA s.names.length a.nC, .slice a.oA s.others.length a.oC, .slice a.iA s.items.length a.iC, .slice a.cA s.cond.length a.cC] 27)))
        generalize w4.alloc (.cells #[.int .i64 s.op, str s.src, .slice a.nA s.names.length a.nC, .slice a.oA s.others.length a.oC, .slice a.iA s.items.length a.iC, .slice a.cA s.cond.length a.cC] 27) = w5 at *
        generalize w4.heap.size = b1 at *
        have u1 := cell_of_heap h1 1
        simp at u1
        go_upto_region 8 with (go_at_call 84; refine (HFd.out _ (bel2 hb5 hbel)).mono ?_; rintro e w6 ⟨⟨nm, Rr, rcc, bb, rfl, hDq⟩, hb6⟩; have HDq := hide hDq; clear hDq)
        have h1 := (hb6.block _ (lt_of_heap h1)).trans h1
        have h1 := alloc_old (o := .cells #[str nm, .slice Rr right.length rcc, .slice none 0 0, .slice none 0 0] 68) h1
        have h2 : (w6.alloc (.cells #[str nm, .slice Rr right.length rcc, .slice none 0 0, .slice none 0 0] 68)).heap[w6.heap.size]? = some (.cells #[str nm, .slice Rr right.length rcc, .slice none 0 0, .slice none 0 0] 68) := heap_alloc_new _ _
        have hb7 : Below wr.heap.size wr (w6.alloc (.cells #[str nm, .slice Rr right.length rcc, .slice none 0 0, .slice none 0 0] 68)) := (bel2 hb6 hb5).alloc (bel2 hb6 hb5).size _
        have HF7 := hide ((HF5.out.below hb6).below ((Below.refl _ _).alloc (Nat.le_refl _) (.cells #[str nm, .slice Rr right.length rcc, .slice none 0 0, .slice none 0 0] 68)))
        have HD7 := hide (HDq.out.below ((Below.refl _ _).alloc (Nat.le_refl _) (.cells #[str nm, .slice Rr right.length rcc, .slice none 0 0, .slice none 0 0] 68)))
        generalize w6.alloc (.cells #[str nm, .slice Rr right.length rcc, .slice none 0 0, .slice none 0 0] 68) = w0 at *
        generalize w6.heap.size = b2 at *
        have HAt := hide (HF7.out.now)
        have HStq := hide (fun W Z zc (hb : Below w0.heap.size w0 W) hZ => HStp.out a Rr rcc W Z zc (bel2 hb hb7) (HAt.out.below hb) (HD7.out.below hb) hZ)
        have hl1 := lt_of_heap h1
        have hl2 := lt_of_heap h2
        have p0 := cell_of_heap h1 0
        have p1 := cell_of_heap h1 1
        have p2 := cell_of_heap h1 2
        have p3 := cell_of_heap h1 3
        have p4 := cell_of_heap h1 4
        have p5 := cell_of_heap h1 5
        have p6 := cell_of_heap h2 1
        simp at p0 p1 p2 p3 p4 p5 p6
        clear u1
        obtain ⟨op, src, names, others, its, cond⟩ := s
        obtain ⟨nA, nC, oA, oC, iA, iC, cA, cC⟩ := a
        simp only at p0 p1 p2 p3 p4 p5 HX HF7
        dsimp only [Stp.agg] at HStq
        clear HF5 HFs HStp HFd HSt HAt h2
        generalize hl3 : names.length = l1 at *
        generalize hl4 : others.length = l2 at *
        generalize hl5 : its.length = l3 at *
        generalize hl6 : cond.length = l4 at *
        have HL3 := hide (show l1 = names.length from hl3.symm)
        have HL4 := hide (show l2 = others.length from hl4.symm)
        have HL5 := hide (show l3 = its.length from hl5.symm)
        have HL6 := hide (show l4 = cond.length from hl6.symm)
        clear hl3 hl4 hl5 hl6
        generalize hld : right.length = ld at *
        clear hld
        have HS := hide (fun w' (hb : Below w0.heap.size w0 w') => show w'.cell? ⟨b1, 0, none⟩ = some (.int .i64 op) ∧ w'.cell? ⟨b1, 1, none⟩ = some (str src) ∧ w'.cell? ⟨b1, 2, none⟩ = some (.slice nA l1 nC) ∧ w'.cell? ⟨b1, 3, none⟩ = some (.slice oA l2 oC) ∧ w'.cell? ⟨b1, 4, none⟩ = some (.slice iA l3 iC) ∧ w'.cell? ⟨b1, 5, none⟩ = some (.slice cA l4 cC) ∧ w'.cell? ⟨b2, 1, none⟩ = some (.slice Rr ld rcc) ∧ Below w0.heap.size w0 w' from ⟨(hb.cell (p := ⟨b1, 0, none⟩) hl1).trans p0, (hb.cell (p := ⟨b1, 1, none⟩) hl1).trans p1, (hb.cell (p := ⟨b1, 2, none⟩) hl1).trans p2, (hb.cell (p := ⟨b1, 3, none⟩) hl1).trans p3, (hb.cell (p := ⟨b1, 4, none⟩) hl1).trans p4, (hb.cell (p := ⟨b1, 5, none⟩) hl1).trans p5, (hb.cell (p := ⟨b2, 1, none⟩) hl2).trans p6, hb⟩)
        refine wp_region_held_drew (S := (fun w' => w'.cell? ⟨b1, 0, none⟩ = some (.int .i64 op) ∧ w'.cell? ⟨b1, 1, none⟩ = some (str src) ∧ w'.cell? ⟨b1, 2, none⟩ = some (.slice nA l1 nC) ∧ w'.cell? ⟨b1, 3, none⟩ = some (.slice oA l2 oC) ∧ w'.cell? ⟨b1, 4, none⟩ = some (.slice iA l3 iC) ∧ w'.cell? ⟨b1, 5, none⟩ = some (.slice cA l4 cC) ∧ w'.cell? ⟨b2, 1, none⟩ = some (.slice Rr ld rcc) ∧ Below w0.heap.size w0 w')) (by kernel_rfl) (by (try dsimp only); exact HS.out _ (Below.drew (Below.refl _ _))) (fun hHeld => ?_)
        refine zT 0 ?_; refine zT 1 ?_; refine zT 2 ?_; refine zT 3 ?_
        refine zR 4 (fun K hK => ?_)
        go_simp
        go_wp2_with (go_at_call 86; refine (base_Zones_s _).mono ?_; rintro e w5 ⟨⟨Z, zc, rfl, hZ⟩, hb5⟩; have hbz := bel2 hb5 (show Below w0.heap.size w0 _ from by first | exact Below.drew (Below.refl _ _) | exact Below.refl _ _); have HZn := hide hZ; clear hZ)
        refine zB hK (HS.out _ hbz) (fun hHeld => ?_)
        clear hK K
        refine zR 5 (fun K hK => ?_)
        go_simp
        go_wp2_with (go_at_call 85; refine (HStq.out _ Z zc hbz HZn.out).mono ?_; rintro e w6 ⟨⟨A6, c6, rfl, hF6⟩, hb6⟩; have hb60 := bel2 hb6 hbz; have HF6 := hide hF6; clear hF6)
        refine zB hK (HS.out _ hb60) (fun hHeld => ?_)
        clear hK K
        refine zT 6 ?_; refine zT 7 ?_; refine zT 8 ?_
        refine zR 9 (fun K hK => ?_)
        go_simp
        refine zB hK (by (try dsimp only); assumption) (fun hHeld => ?_)
        clear hK K
        refine zR 10 (fun K hK => ?_)
        go_simp
        refine zB hK (by (try dsimp only); assumption) (fun hHeld => ?_)
        clear hK K
        refine wpAnyH_done (by kernel_rfl) ?_ _
        have hb60w : Below wr.heap.size wr w6 := bel2 hb60 hb7
        have o0 := (hb60.cell (p := ⟨b1, 0, none⟩) hl1).trans p0
        have o1 := (hb60.cell (p := ⟨b1, 1, none⟩) hl1).trans p1
        have o2 := (hb60.cell (p := ⟨b1, 2, none⟩) hl1).trans p2
        have o3 := (hb60.cell (p := ⟨b1, 3, none⟩) hl1).trans p3
        have o4 := (hb60.cell (p := ⟨b1, 4, none⟩) hl1).trans p4
        have o5 := (hb60.cell (p := ⟨b1, 5, none⟩) hl1).trans p5
        clear p0 p1 p2 p3 p4 p5 p6
        by_cases h0 : r.2 = 0
        · have HX2 := hide (HX.out.trans (if_pos h0))
          have h0b : (r.2 == 0) = true := by simpa using h0
          obtain ⟨az, hal, how, hfm⟩ := HRow.out.below hb60w
          have HFm2 := hide hfm
          have HAl := hide hal
          have HOw := hide how
          have hwz : w.heap.size ≤ w6.heap.size := (bel2 hb60w hbel).size
          clear hal how hfm h0 HX
          go_wp2_with (at_builtin; refine wpList_append_own _ rfl _ _ 22 rfl w.heap.size 27 is _ 6 120 Tryz.underlying22 hi hz0 hz1 hz2 rfl (by decide) _ _ _ rfl (HOw.out.alloc _) ⟨w6.heap.size, 0, none⟩ 1 1 [.int .i64 op, str src, .slice nA l1 nC, .slice oA l2 oC, .slice iA l3 iC, .slice cA l4 cC] rfl rfl (by exact cells_6 (heap_alloc_new _ _)) (by simp [Value.oneCell']) (by unfold maxLen; omega) (by omega) (by simp; omega) ?_; intro v' w9 hown9 hgrow9 _)
          obtain ⟨A9, c9, rfl⟩ := own_form hown9
          have ow := HOw.out.alloc (.cells #[.int .i64 op, str src, .slice nA l1 nC, .slice oA l2 oC, .slice iA l3 iC, .slice cA l4 cC] 27)
          have hk9 := KeepsT.of_row ow hgrow9
          have hal9 : Below w6.heap.size w6 (w6.alloc (.cells #[.int .i64 op, str src, .slice nA l1 nC, .slice oA l2 oC, .slice iA l3 iC, .slice cA l4 cC] 27)) := (Below.refl _ _).alloc (Nat.le_refl _) _
          have ecell : [Value.int .i64 op, str src, .slice nA l1 nC, .slice oA l2 oC, .slice iA l3 iC, .slice cA l4 cC] = (⟨op, src, names, others, its, cond⟩ : Stp).cells ⟨nA, nC, oA, oC, iA, iC, cA, cC⟩ := by
            show _ = [Value.int .i64 op, str src, .slice nA names.length nC, .slice oA others.length oC, .slice iA its.length iC, .slice cA cond.length cC]
            rw [HL3.out, HL4.out, HL5.out, HL6.out]
          rw [ecell] at hown9
          have HPush := hide (StepsRow.push HAl.out ow (fun i h h' => (HFm2.out i h h').below hal9) ((HF7.out.below hb60).below hal9) hown9 hk9)
          have HC9 := hide ((HF6.out.below hal9).keep hk9)
          have hb9 : Below w.heap.size w w9 := ((bel2 hb60w hbel).alloc hwz _).grown hgrow9 (by simp; omega) (fun j hj => (HOw.out.lt j hj).1)
          exact ⟨⟨k + 1, A9, c9, A6, c6, by omega, by rw [HX2.out]; simp, by rw [HX2.out], by go_num, by rw [HX2.out]; exact HPush, by rw [HX2.out]; exact HC9, hb9⟩, by simp [intOf]; omega⟩
        · have h0b : (r.2 == 0) = false := beq_eq_false_iff_ne.2 h0
          have HX2 := hide (HX.out.trans (if_neg h0))
          go_wp2
          exact ⟨⟨k + 1, A, c, Cc, cc, by omega, by rw [HX2.out], by rw [HX2.out], by go_num, by rw [HX2.out]; exact hide (HRow.out.below hb60w), by rw [HX2.out]; exact hide (HCf.out.below hb60w), bel2 hb60w hbel⟩, by simp [intOf]; omega⟩
      · have hltI : ¬ (k : Int) + 1 < nI := by have := HnI.out; omega
        have e1 : n - 1 = k := by omega
        go_wp2
        go_ret
        try rw [e1]
        exact ⟨⟨A, c, rfl, HRow.out⟩, hbel⟩
end Go.Proofs.YtmbeeefkpgfgmaaGreatDoor
namespace Go.Proofs.YtmbeeefkpgfgmaaGreatDoor
open Go.RowKit
def selfN : Bytes := [115, 101, 108, 102]
theorem relL_G (last : Bytes) (h : last.length ≤ 100) : RelG (relL last) := by
  refine ⟨by simp [relL], by simp [relL], relL_good last, fun r hr => ?_⟩
  simp only [relL, List.mem_cons, List.not_mem_nil, or_false] at hr
  rcases hr with rfl | rfl | rfl
  · show (6 : Nat) ≤ 100; omega
  · show (9 : Nat) ≤ 100; omega
  · exact h
theorem RelBlk.rels {w : World} {g : Nat} {last : Bytes} (h : RelBlk w g last) : RelsF w (some ⟨g, 0, none⟩) (relL last) := by
  obtain ⟨B1, B2, hg, h1, h2, _, _⟩ := h
  refine ⟨g, 0, rfl, fun i hi => ?_⟩
  have hi3 : i < 3 := hi
  have k : ∀ W, KeepsT w W → W.heap[g]? = some (.cells (relCells B1 B2 last) 68) ∧ W.heap[B1]? = some (.cells (coCells ordC).toArray 105) ∧ W.heap[B2]? = some (.cells (coCells cusC).toArray 105) := fun W hW =>
    ⟨hW.2 _ _ _ _ hg (by decide), hW.2 _ _ _ _ h1 (by decide), hW.2 _ _ _ _ h2 (by decide)⟩
  match i, hi3 with
  | 0, _ => exact ⟨some ⟨B1, 0, none⟩, 4, fun W hW => by
      obtain ⟨q, q1, q2⟩ := k W hW
      exact ⟨lt_of_heap q, cell_of_heap q 0, cell_of_heap q 1, cell_of_heap q 2, cell_of_heap q 3, cols_block q1⟩⟩
  | 1, _ => exact ⟨some ⟨B2, 0, none⟩, 4, fun W hW => by
      obtain ⟨q, q1, q2⟩ := k W hW
      exact ⟨lt_of_heap q, cell_of_heap q 4, cell_of_heap q 5, cell_of_heap q 6, cell_of_heap q 7, cols_block q2⟩⟩
  | 2, _ => exact ⟨some ⟨B1, 0, none⟩, 4, fun W hW => by
      obtain ⟨q, q1, q2⟩ := k W hW
      exact ⟨lt_of_heap q, cell_of_heap q 8, cell_of_heap q 9, cell_of_heap q 10, cell_of_heap q 11, cols_block q1⟩⟩
theorem RelBlk.below {w w' : World} {g : Nat} {last : Bytes} (h : RelBlk w g last) (hb : Below w.heap.size w w') : RelBlk w' g last := by
  obtain ⟨B1, B2, hg, h1, h2, n1, n2⟩ := h
  exact ⟨B1, B2, (hb.block _ (lt_of_heap hg)).trans hg, (hb.block _ (lt_of_heap h1)).trans h1, (hb.block _ (lt_of_heap h2)).trans h2, n1, n2⟩
theorem RelBlk.name {w : World} {g : Nat} {last x : Bytes} (h : RelBlk w g last) : RelBlk (w.setCell ⟨g, 8, none⟩ (str x)) g x := by
  obtain ⟨B1, B2, hg, h1, h2, n1, n2⟩ := h
  refine ⟨B1, B2, ?_, ?_, ?_, n1, n2⟩
  · have h9 := heap_setCell_same w g 8 _ _ (str x) hg
    simpa [relCells] using h9
  · rw [heap_setCell_other w ⟨g, 8, none⟩ B1 (str x) (fun e => n1 (by simpa using e))]
    exact h1
  · rw [heap_setCell_other w ⟨g, 8, none⟩ B2 (str x) (fun e => n2 (by simpa using e))]
    exact h2
structure MadeG (ss : List Stp) : Prop where
  ok : StsOk ss
  len : ss.length ≤ 60
  head : ∃ s rest, ss = s :: rest ∧ s.op = 0 ∧ s.src ≠ []
  its : ∀ s ∈ ss, s.items.length ≤ 12
theorem made_good {last : Bytes} (hl : last.length ≤ 100) (hne : last ≠ []) (l : List Int) (k : Nat) (hk : k ≤ 50) : MadeG (qry (relL last) l k).1 := by
  have h := qry_good l (relL_G last hl) k (by omega)
  obtain ⟨rest, hr⟩ := h.head
  refine ⟨h.ok, by have := h.len; omega, ⟨_, rest, hr, rfl, ?_⟩, h.its⟩
  have hm := qryF_mem l (relL_G last hl)
  generalize qryF (relL last) l = r at hm ⊢
  simp only [relL, List.mem_cons, List.not_mem_nil, or_false] at hm
  rcases hm with e | e | e
  · subst e; simp
  · subst e; simp
  · subst e; exact hne
theorem nd_addr0 (g off i : Nat) : (⟨g, off, none⟩ : Addr).add i = ⟨g, off + i, none⟩ := by unfold Addr.add; split <;> simp_all
theorem IntsAt_of_own {w : World} {base e c : Nat} {A : Option Addr} {l : List Int} (hm : l.length ≤ maxLen) (h : w.ownsRow base e 1 (.slice A l.length c) l.length (l.map (Value.int .i64))) : IntsAt w A l := by
  rcases h.2 with ⟨_, hn⟩ | ⟨g, cap, cur, hv, hg, hh, hnc, hcap, hsz, htk⟩
  · exact .inl (List.eq_nil_of_length_eq_zero hn)
  · injection hv with h1 h2 h3
    subst h1
    refine .inr ⟨⟨g, 0, none⟩, rfl, lt_of_heap hh, hm, fun j hj => ?_⟩
    have hc : w.cell? ⟨g, j, none⟩ = (l.map (Value.int .i64))[j]? := World.ownsRow.cellAt h j (by omega)
    rw [nd_addr0 g 0 j, Nat.zero_add, hc, List.getElem?_map, List.getD_eq_getElem?_getD]
    simp [hj]
theorem RelBlk.grown {w2 w' : World} {g : Nat} {last : Bytes} {o : Obj} (h : RelBlk w2 g last) (hgr : (w2.alloc o).grownBy w' (some w2.heap.size)) : RelBlk w' g last := by
  obtain ⟨B1, B2, hg, h1, h2, n1, n2⟩ := h
  have k : ∀ (j : Nat) (x : Obj), w2.heap[j]? = some x → w'.heap[j]? = some x := fun j x e => by
    have hl := lt_of_heap e
    rw [hgr.block j (by rw [World.size_alloc]; omega) (fun hk => by injection hk with hk; omega)]
    exact alloc_old e
  exact ⟨B1, B2, k _ _ hg, k _ _ h1, k _ _ h2, n1, n2⟩
theorem RelBlk.old {w2 : World} {g : Nat} {last : Bytes} {o : Obj} (h : RelBlk w2 g last) : RelBlk (w2.alloc o) g last := by
  obtain ⟨B1, B2, hg, h1, h2, n1, n2⟩ := h
  exact ⟨B1, B2, alloc_old hg, alloc_old h1, alloc_old h2, n1, n2⟩
theorem Tryz.info_int9 : (Tryz.prog.info? 3).map (fun i => (i.zero, i.size, i.bytes)) = some (some (.int .i64 0), 1, 8) := by kernel_rfl
set_option maxRecDepth 100000 in
set_option maxHeartbeats 4000000 in
theorem law11_made_any (l : List Int) (n : Int) : ∃ ss : List Stp, MadeG ss ∧ ∀ (L : Option Addr) (lc : Nat) (w : World), IntsAt w L l → (L = none → lc = 0) → l.length * 8 ≤ 140737488351232 →
    Calls Tryz.prog 13 #[.slice L l.length lc, .int .i64 n] w fun e w' => (∃ (A : Option Addr) (c : Nat), e = .returned (.slice A ss.length c) ∧ StepsRow w' w.heap.size A c ss) ∧ Below w.heap.size w w' := by
  have q1 := mask_1
  have q7 := mask_7
  obtain ⟨nq, hnq, hq1, hq2⟩ : ∃ nq : Nat, 2 + n / 4 % 8 = (nq : Int) ∧ 1 ≤ nq ∧ nq ≤ 50 := ⟨(2 + n / 4 % 8).toNat, by omega, by omega, by omega⟩
  by_cases hn : n % 2 = 1
  rotate_left
  · have hn0 : n % 2 = 0 := by omega
    refine ⟨_, made_good (last := retN) (by decide) (by decide) l (nq - 1) (by omega), fun L lc w hL hlc hlb => ?_⟩
    have HQ := hide (fun g W (hb : Below w.heap.size w W) (hB : RelBlk W g retN) => show Calls Tryz.prog 34 #[.slice (some ⟨g, 0, none⟩) 3 3, .slice L l.length lc, .int .i64 (nq : Int)] W (fun e w' => (∃ (A : Option Addr) (c : Nat), e = .returned (.slice A (qry (relL retN) l (nq - 1)).1.length c) ∧ StepsRow w' W.heap.size A c (qry (relL retN) l (nq - 1)).1) ∧ Below W.heap.size W w') from base_Query_any (relL retN) (relL_G _ (by decide)) l nq hq1 hq2 _ 3 L lc W hB.rels (hL.below hb))
    clear hL hlc hn
    generalize (qry (relL retN) l (nq - 1)).1 = ss at *
    go_enter Tryz.func13, Tryz.ntmps13
    go_wp2_with (first
      | (go_at_call 33; refine (base_Relations_any w).mono ?_; rintro e w1 ⟨⟨g, rfl, hg, hB⟩, hb1⟩; have HB := hide hB; clear hB)
      | (go_at_call 34; refine (HQ.out _ _ hb1 HB.out).mono ?_; rintro e w2 ⟨⟨A, c, rfl, hrow⟩, hb2⟩; have HRw := hide hrow; clear hrow))
    go_ret
    exact ⟨⟨A, c, rfl, HRw.out.low hb1.size⟩, bel2 hb2 hb1⟩
  · refine ⟨_, made_good (last := selfN) (by decide) (by decide) (n / 2 % 2 :: l) (nq - 1) (by omega), fun L lc w hL hlc hlb => ?_⟩
    obtain ⟨x, hx⟩ : ∃ x : Int, x = n / 2 % 2 := ⟨_, rfl⟩
    rw [← hx]
    have hlm : l.length ≤ maxLen := by
      rcases hL with e | ⟨a, _, _, hl, _⟩
      · rw [e]; exact Nat.zero_le _
      · exact hl
    have HQ := hide (fun g W A c (hB : RelBlk W g selfN) (hI : IntsAt W A (x :: l)) => show Calls Tryz.prog 34 #[.slice (some ⟨g, 0, none⟩) 3 3, .slice A (x :: l).length c, .int .i64 (nq : Int)] W (fun e w' => (∃ (A : Option Addr) (c : Nat), e = .returned (.slice A (qry (relL selfN) (x :: l) (nq - 1)).1.length c) ∧ StepsRow w' W.heap.size A c (qry (relL selfN) (x :: l) (nq - 1)).1) ∧ Below W.heap.size W w') from base_Query_any (relL selfN) (relL_G _ (by decide)) (x :: l) nq hq1 hq2 _ 3 A c W hB.rels hI)
    generalize (qry (relL selfN) (x :: l) (nq - 1)).1 = ss at *
    obtain ⟨i0, hi, hz0, hz1, hz2⟩ := info_parts Tryz.info_int9
    have hxx : n / 2 % 2 = x := hx.symm
    have HE1 := hide (show 1 + l.length = (x :: l).length from by simp; omega)
    have HE2 := hide (show [Value.int .i64 x] ++ l.map (Value.int .i64) = (x :: l).map (Value.int .i64) from rfl)
    have HM2 := hide (show (x :: l).length ≤ maxLen from by unfold maxLen; simp; omega)
    have hcase : (L = none ∧ l = [] ∧ lc = 0) ∨ ∃ a, L = some a ∧ Hid (∀ W, Below w.heap.size w W → ∀ j u, (l.map (Value.int .i64))[j]? = some u → W.cell? (a.add j) = some u) := by
      cases hLc : L with
      | none =>
        rcases hL with e | ⟨a, ha, _⟩
        · exact .inl ⟨rfl, e, hlc hLc⟩
        · rw [hLc] at ha; cases ha
      | some a =>
        refine .inr ⟨a, rfl, hide fun W hb j u hu => ?_⟩
        rcases hL with e | ⟨a', ha, hg, _, hc⟩
        · subst e; simp at hu
        · rw [hLc] at ha
          injection ha with ha
          subst ha
          have hj : j < l.length := by
            rcases Nat.lt_or_ge j l.length with h | h
            · exact h
            · rw [List.getElem?_eq_none (by simpa using h)] at hu; cases hu
          rw [hb.cell (p := a.add j) (by cases j <;> simpa [Addr.add] using hg), hc j hj, ← hu, List.getElem?_map, List.getD_eq_getElem?_getD]
          simp [hj]
    clear hL hx hq1 hq2 hlc hlm
    go_enter Tryz.func13, Tryz.ntmps13
    go_upto_region 4 with (go_at_call 33; refine (base_Relations_any w).mono ?_; rintro e w1 ⟨⟨g, rfl, hg, hB⟩, hb1⟩; have HB1 := hide (RelBlk.name (x := selfN) hB); obtain ⟨B1, B2, hgh, _⟩ := hB; have c8 := cell_of_heap hgh 8; have f8 : ∀ j, w1.frozen? ⟨g, j, none⟩ = false := (fun j => free_of_heap hgh j); clear hgh)
    have hb2 : Below w.heap.size w (w1.setCell ⟨g, 8, none⟩ (.string ⟨#[115, 101, 108, 102]⟩)) := hb1.setCell hg _
    have HB := hide (show RelBlk (w1.setCell ⟨g, 8, none⟩ (.string ⟨#[115, 101, 108, 102]⟩)) g selfN from HB1.out)
    clear c8 f8 HB1
    generalize w1.setCell ⟨g, 8, none⟩ (.string ⟨#[115, 101, 108, 102]⟩) = w2 at *
    have hsz := hb2.size
    rcases hcase with ⟨rfl, rfl, rfl⟩ | ⟨a, rfl, HN⟩
    · have HI := hide (show IntsAt (w2.alloc (.cells #[.int .i64 x] 3)) (some ⟨w2.heap.size, 0, none⟩) [x] from IntsAt_of_own (base := w.heap.size) (e := 3) (c := 1) (show (1 : Nat) ≤ maxLen from by unfold maxLen; omega) (own_fresh (e := 3) (size := 1) (n := 1) (cur := #[.int .i64 x]) w2 hsz (by simp) (by unfold maxLen; omega)))
      have hown := own_fresh (e := 3) (size := 1) (n := 1) (cur := #[.int .i64 x]) w2 hsz (by simp) (by unfold maxLen; omega)
      have hb3 : Below w.heap.size w (w2.alloc (.cells #[.int .i64 x] 3)) := hb2.alloc hsz _
      go_wp2_with (first
        | (at_builtin; refine wpList_append_own_none rfl _ _ 28 rfl w.heap.size 3 i0 1 Tryz.underlying28 hi _ _ _ rfl hown rfl ?_)
        | (go_at_call 34; refine (HQ.out _ _ _ _ HB.out.old HI.out).mono ?_; rintro e w4 ⟨⟨A, c, rfl, hrow⟩, hb4⟩; have HRw := hide hrow; clear hrow))
      go_ret
      exact ⟨⟨A, c, rfl, HRw.out.low hb3.size⟩, bel2 hb4 hb3⟩
    · have hown := own_fresh (e := 3) (size := 1) (n := 1) (cur := #[.int .i64 x]) w2 hsz (by simp) (by unfold maxLen; omega)
      go_wp2_with (first
        | (at_builtin; refine wpList_append_own _ rfl _ _ 28 rfl w.heap.size 3 i0 _ 1 8 Tryz.underlying28 hi hz0 hz1 hz2 rfl (by decide) _ _ _ rfl hown a l.length lc (l.map (Value.int .i64)) rfl (by simp) (HN.out _ (hb2.alloc hsz _)) (fun u hu => (by obtain ⟨y, _, rfl⟩ := List.mem_map.1 hu; rfl)) (by unfold maxLen; omega) (by omega) (by simp; omega) ?_; intro v3 w3 hown3 hgrow3 _; rw [HE1.out] at hown3; obtain ⟨A3, c3, rfl⟩ := own_form hown3; have HI := hide (IntsAt_of_own HM2.out (show w3.ownsRow w.heap.size 3 1 (.slice A3 (x :: l).length c3) (x :: l).length ((x :: l).map (Value.int .i64)) from hown3)); have HB3 := hide (HB.out.grown hgrow3); have hb3 : Below w.heap.size w w3 := ((hb2.alloc hsz _).grown hgrow3 (by simp; omega) (fun j hj => (hown.lt j hj).1)); clear hown3 hgrow3)
        | (go_at_call 34; refine (HQ.out _ _ _ _ HB3.out HI.out).mono ?_; rintro e w4 ⟨⟨A, c, rfl, hrow⟩, hb4⟩; have HRw := hide hrow; clear hrow))
      go_ret
      exact ⟨⟨A, c, rfl, HRw.out.low hb3.size⟩, bel2 hb4 hb3⟩
end Go.Proofs.YtmbeeefkpgfgmaaGreatDoor
