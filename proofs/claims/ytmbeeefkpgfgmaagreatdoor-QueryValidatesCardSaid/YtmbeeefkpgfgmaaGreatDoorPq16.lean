/- Contracts, told: ref5.Widen, ref15.same. Relations in memory; the contract of ref15.Find, told. Contracts: base.fresh, base.name, base.some: names, told. Contract, told: base.Relations. -/
import Derived.Test.YtmbeeefkpgfgmaaGreatDoorPq15
import Derived.Test.YtmbeeefkpgfgmaaGreatDoorPq13
import Derived.Test.YtmbeeefkpgfgmaaGreatDoorPq07
set_option linter.unusedVariables false
set_option linter.unusedSimpArgs false
namespace Go.Proofs.YtmbeeefkpgfgmaaGreatDoor
open Go.RowKit
def widC (x y : Col) : Col := ⟨x.name, x.kind, x.null || y.null⟩
theorem coCells_set {L : List Col} {i : Nat} (h : i < L.length) (b : Bool) : (coCells L).set (i * 3 + 2) (.bool b) = coCells (L.set i ⟨L[i].name, L[i].kind, b⟩) := by
  apply List.ext_getElem?
  intro j
  rcases Nat.lt_or_ge j (L.length * 3) with hj | hj
  · have hjj : j = j / 3 * 3 + j % 3 := by omega
    have hr : j % 3 < 3 := by omega
    have hq : j / 3 < L.length := by omega
    have e1 := coCells_at (L.set i ⟨L[i].name, L[i].kind, b⟩) (j / 3) (by simpa using hq) (j % 3) hr
    have e2 := coCells_at L (j / 3) hq (j % 3) hr
    rw [← hjj] at e1 e2
    rw [e1]
    by_cases hi : j / 3 = i
    · rw [List.getElem_set, if_pos hi.symm]
      by_cases h2 : j % 3 = 2
      · rw [show j = i * 3 + 2 by omega, List.getElem?_set_self (by rw [coCells_len]; omega), show (i * 3 + 2) % 3 = 2 by omega]; rfl
      · rw [List.getElem?_set_ne (by omega), e2]
        subst hi
        generalize j % 3 = r at *
        match r, hr with
        | 0, _ => rfl
        | 1, _ => rfl
        | 2, _ => exact absurd rfl h2
    · rw [List.getElem_set, if_neg (fun e => hi e.symm), List.getElem?_set_ne (by omega), e2]
  · rw [List.getElem?_eq_none (by rw [List.length_set, coCells_len]; exact hj), List.getElem?_eq_none (by rw [coCells_len, List.length_set]; exact hj)]
theorem wid_of {a b L : List Col} (hl : a.length = b.length) (hL : L.length = a.length) (h : ∀ j (h1 : j < L.length) (h2 : j < a.length) (h3 : j < b.length), L[j] = widC a[j] b[j]) : L = widS a b := by
  apply List.ext_getElem (by simp [widS, hL])
  intro i h1 h2
  rw [h i h1 (by omega) (by omega)]
  simp only [widS, List.getElem_map, List.getElem_range, widC]
  have e1 : a.getD i col0 = a[i]'(by omega) := by rw [List.getD_eq_getElem?_getD, List.getElem?_eq_getElem (by omega)]; rfl
  have e2 : b.getD i col0 = b[i]'(by omega) := by rw [List.getD_eq_getElem?_getD, List.getElem?_eq_getElem (by omega)]; rfl
  rw [e1, e2]
  simp [show i < b.length by omega]
set_option maxRecDepth 100000 in
set_option maxHeartbeats 1200000 in
theorem ref5_Widen_any (A : Option Addr) (a : List Col) (ac : Nat) (B : Option Addr) (b : List Col) (bc : Nat) (w : World) (hA : ColsAt w A a) (hB : ColsAt w B b) (hp : 0 < a.length) (ha : a.length ≤ 1000) (hl : a.length = b.length) :
    Calls Tryz.prog 227 #[.slice A a.length ac, .slice B b.length bc] w fun e w' => (∃ (C : Option Addr) (c : Nat), e = .returned (.slice C a.length c) ∧ w'.ownsRow w.heap.size 105 3 (.slice C a.length c) a.length (coCells (widS a b))) ∧ Below w.heap.size w w' := by
  have HB := hide hB
  have HL := hide hl
  have hbl : b.length ≤ 1000 := by omega
  have hlI : (a.length : Int) = (b.length : Int) := by omega
  have HLI := hide hlI
  clear hB hl hlI
  obtain ⟨i0, hi, hz0, hz1, hz2⟩ := info_parts Tryz.info_col
  rcases hA with e | ⟨g, off, rfl, hgs, hcc⟩
  · exact absurd hp (by rw [e]; simp)
  have hnews := coCells_get hcc
  clear hcc
  go_enter Tryz.func227, Tryz.ntmps227
  go_wp2_with (at_builtin; refine wpList_append_own _ rfl _ _ 64 rfl w.heap.size 105 i0 _ 3 32 Tryz.underlying64 hi hz0 hz1 hz2 rfl (by decide) (.slice none 0 0) 0 [] rfl (own_nil _ _ _ _) ⟨g, off, none⟩ a.length ac (coCells a) rfl (coCells_len a) hnews (coCells_one a) (by unfold maxLen; omega) (by omega) (Nat.le_refl _) ?_; intro v0 w0 hown0 hgrow0 _)
  have hbel0 : Below w.heap.size w w0 := (Below.refl _ _).grown hgrow0 (Nat.le_refl _) (fun k hk => by cases hk)
  simp only [Nat.zero_add, List.nil_append] at hown0
  obtain ⟨G, cp, rfl⟩ : ∃ G cp, v0 = .slice (some ⟨G, 0, none⟩) a.length cp := by
    rcases hown0.2 with ⟨_, hn⟩ | ⟨G, cp, cur, hv, _⟩
    · exact absurd hn (by omega)
    · exact ⟨G, cp, hv⟩
  have hGs : w.heap.size ≤ G := (hown0.lt G rfl).1
  clear hnews hgrow0
  go_wp2
  go_loopw [6] (fun i wr => ∃ (k : Nat) (L : List Col), i = .int .i64 k ∧ k ≤ a.length ∧ Hid (L.length = a.length ∧ ∀ j (h1 : j < L.length) (h2 : j < a.length) (h3 : j < b.length), L[j] = if j < k then widC a[j] b[j] else a[j]) ∧
      wr.ownsRow w.heap.size 105 3 (.slice (some ⟨G, 0, none⟩) a.length cp) a.length (coCells L) ∧ Below w.heap.size w wr) (fun i _ => a.length - (intOf i).toNat)
  case atStart => exact ⟨0, a, rfl, by omega, ⟨rfl, fun j h1 h2 h3 => by rw [if_neg (by omega)]⟩, hown0, hbel0⟩
  case round =>
    clear hown0 hbel0
    obtain ⟨k, L, rfl, hk, HX, hown, hbel⟩ := hrel
    by_cases hlt : k < a.length
    · have hlt2 : k < b.length := by have := HL.out; omega
      have hlt3 : k < L.length := by have := HX.out.1; omega
      rcases HB.out.below hbel with e | ⟨gb, ob, rfl, hgb, hcb⟩
      · exact absurd hlt2 (by rw [e]; simp)
      obtain ⟨d0, d1, d2⟩ := hcb k hlt2
      have e2 := coCells_at L k hlt3 2 (by omega)
      have v2 : wr.cell? ⟨G, k * 3 + 2, none⟩ = (coCells L)[k * 3 + 2]? := World.ownsRow.cellAt hown _ (by have := hown.1; omega)
      rw [e2, show L[k].cells[2]? = some (.bool L[k].null) from rfl] at v2
      have f2 := World.ownsRow.frozenAt hown (k * 3 + 2)
      have hLk := HX.out.2 k hlt3 hlt hlt2
      rw [if_neg (by omega)] at hLk
      rw [hLk] at v2
      have HN := hide (show (L.set k ⟨L[k].name, L[k].kind, a[k].null || b[k].null⟩).length = a.length ∧ ∀ j (h1 : j < (L.set k ⟨L[k].name, L[k].kind, a[k].null || b[k].null⟩).length) (h2 : j < a.length) (h3 : j < b.length), (L.set k ⟨L[k].name, L[k].kind, a[k].null || b[k].null⟩)[j] = if j < k + 1 then widC a[j] b[j] else a[j] from by
        refine ⟨by rw [List.length_set]; exact HX.out.1, fun j h1 h2 h3 => ?_⟩
        rw [List.getElem_set]
        by_cases e : k = j
        · subst e
          rw [if_pos rfl, if_pos (by omega), hLk]
          rfl
        · rw [if_neg e, HX.out.2 j (by rw [List.length_set] at h1; exact h1) h2 h3]
          by_cases hjk : j < k
          · rw [if_pos hjk, if_pos (by omega)]
          · rw [if_neg hjk, if_neg (by omega)])
      have HS := hide (coCells_set hlt3 (a[k].null || b[k].null))
      have HOwn := hide hown
      have hlt2I : (k : Int) < (b.length : Int) := by omega
      clear hcb hown e2 hLk
      generalize a[k].null = p at *
      generalize b[k].null = q at *
      have hst := HOwn.out.stored (k * 3 + 2) (.bool (p || q))
      have HS1 := hide (show (wr.setCell ⟨G, k * 3 + 2, none⟩ (.bool (p || q))).ownsRow w.heap.size 105 3 (.slice (some ⟨G, 0, none⟩) a.length cp) a.length (coCells (L.set k ⟨L[k].name, L[k].kind, p || q⟩)) from by
        have h9 := hst.1
        rw [HS.out] at h9
        exact h9)
      have HB1 := hide (hbel.grown hst.2 hbel.size (fun j e => by injection e with e; omega))
      clear hst HS
      cases p <;> cases q
      all_goals
        go_wp2
        try go_region
        all_goals (try go_wp2)
        exact ⟨⟨k + 1, _, by go_num, by omega, HN, HS1.out, HB1.out⟩, by simp [intOf]; omega⟩
    · obtain rfl : k = a.length := by omega
      have HE := hide (wid_of HL.out HX.out.1 (fun j h1 h2 h3 => by rw [HX.out.2 j h1 h2 h3, if_pos h2]))
      have HOwn := hide hown
      clear hown
      go_wp2
      go_ret
      exact ⟨⟨_, _, rfl, by rw [← HE.out]; exact HOwn.out⟩, hbel⟩
theorem wid_len (a b : List Col) : (widS a b).length = a.length := by simp [widS]
set_option maxRecDepth 100000 in
set_option maxHeartbeats 1200000 in
theorem ref15_same_any (C : Option Addr) (cs : List Col) (cc : Nat) (s : Stp) (a : Adr) (R : Option Addr) (right : List Col) (rc : Nat) (w : World) (hF : Firm (fun W => ColsAt W C cs) w) (hg : ColG cs) (hR : ColsAt w R right) (hrl : right.length ≤ 1000) :
    Calls Tryz.prog 154 #[.slice C cs.length cc, s.agg a, .slice R right.length rc] w fun e w' => ColR (unionS cs s right) w' e ∧ Below w.heap.size w w' := by
  have HC := hide hF.now
  have HF := hide hF
  have hcl := hg.le
  have hcp := hg.pos
  have HS := hide (fun W (hb : Below w.heap.size w W) => ref5_Same_any C cs cc R right rc W (hF.now.below hb) (hR.below hb) (by omega) (by omega))
  have HX := hide (show unionS cs s right = if sameB cs right = false then ([], 7) else if s.op = 9 then (cs, 0) else (widS cs right, 0) from rfl)
  have HW := hide (fun (hl : cs.length = right.length) W (hb : Below w.heap.size w W) => ref5_Widen_any C cs cc R right rc W (hF.now.below hb) (hR.below hb) hg.pos (by omega) hl)
  have HLen := hide (fun h => sameB_len (a := cs) (b := right) h)
  clear hF hg hR
  generalize unionS cs s right = r at *
  obtain ⟨op, src, names, others, its, cond⟩ := s
  obtain ⟨nA, nC, oA, oC, iA, iC, cA, cC⟩ := a
  simp only at HX
  show Calls Tryz.prog 154 #[_, .agg #[.int .i64 op, str src, .slice nA names.length nC, .slice oA others.length oC, .slice iA its.length iC, .slice cA cond.length cC], _] w _
  generalize names.length = ln
  generalize others.length = lo
  generalize its.length = li
  generalize cond.length = lc
  have hbox : Below (w.heap.size + 1) (w.alloc (.cells #[.int .i64 op, str src, .slice nA ln nC, .slice oA lo oC, .slice iA li iC, .slice cA lc cC] 27)) (w.alloc (.cells #[.int .i64 op, str src, .slice nA ln nC, .slice oA lo oC, .slice iA li iC, .slice cA lc cC] 27)) := Below.refl _ _
  have HWL := hide (wid_len cs right)
  cases hb : sameB cs right
  · rw [hb] at HS HX
    have HE := hide (HX.out.trans (if_pos rfl))
    clear HX HW HLen hb
    go_enter Tryz.func154, Tryz.ntmps154
    go_wp2_with (go_at_call 226; refine (HS.out _ (box_below hbox)).mono ?_; rintro e w1 ⟨rfl, hb1⟩; have hbx := below_go hbox (by simp) hb1)
    refine bodyPost_ret (v := .tuple #[.slice none 0 0, .int .i64 7]) (by simp [results, Tryz.results154, go_sem]) rfl ⟨⟨none, 0, by rw [HE.out]; rfl, by rw [HE.out]; exact Firm.nil _ _⟩, box_below hbx⟩
  have HW2 := hide (HW.out (HLen.out hb))
  rw [hb] at HS HX
  have HX2 := hide (HX.out.trans (if_neg (by decide)))
  clear HX HW HLen hb
  generalize widS cs right = ws at *
  by_cases h9 : op = 9
  · subst h9
    have HE := hide (HX2.out.trans (if_pos rfl))
    clear HX2 HW2
    go_enter Tryz.func154, Tryz.ntmps154
    go_wp2_with (go_at_call 226; refine (HS.out _ (box_below hbox)).mono ?_; rintro e w1 ⟨rfl, hb1⟩; have hbx := below_go hbox (by simp) hb1; obtain ⟨m0, m1, m2, m3, m4, m5, hlw⟩ := box6 hbx)
    refine bodyPost_ret (v := .tuple #[.slice C cs.length cc, .int .i64 0]) (by simp [results, Tryz.results154, go_sem]) rfl ⟨⟨C, cc, by rw [HE.out], by rw [HE.out]; exact HF.out.below (box_below hbx)⟩, box_below hbx⟩
  · have q9 : (op == 9) = false := beq_eq_false_iff_ne.2 h9
    have HE := hide (HX2.out.trans (if_neg h9))
    clear HX2 h9
    go_enter Tryz.func154, Tryz.ntmps154
    go_wp2_with (first
      | (go_at_call 226; refine (HS.out _ (box_below hbox)).mono ?_; rintro e w1 ⟨rfl, hb1⟩; have hbx := below_go hbox (by simp) hb1; obtain ⟨m0, m1, m2, m3, m4, m5, hlw⟩ := box6 hbx)
      | (go_at_call 227; refine (HW2.out _ (box_below hbx)).mono ?_; rintro e w2 ⟨⟨D, d, rfl, hown⟩, hb2⟩; have hby := below_go hbx (by simp) hb2; have HO := hide hown; clear hown))
    have HFm := hide (by
      have h8 := HO.out
      rw [← HWL.out] at h8
      exact Firm.cols h8)
    refine bodyPost_ret (v := .tuple #[.slice D cs.length d, .int .i64 0]) (by simp [results, Tryz.results154, go_sem]) rfl ⟨⟨D, d, by rw [HE.out]; simp [HWL.out], by rw [HE.out]; exact HFm.out⟩, box_below hby⟩
end Go.Proofs.YtmbeeefkpgfgmaaGreatDoor
namespace Go.Proofs.YtmbeeefkpgfgmaaGreatDoor
open Go.RowKit
structure Rel where
  name : Bytes
  cols : List Col
def RelsAt (w : World) (A : Option Addr) (rs : List Rel) : Prop :=
  rs = [] ∨ ∃ g off, A = some ⟨g, off, none⟩ ∧ g < w.heap.size ∧ ∀ i (h : i < rs.length), ∃ (C : Option Addr) (c : Nat),
    w.cell? ⟨g, off + i * 4, none⟩ = some (str rs[i].name) ∧ w.cell? ⟨g, off + i * 4 + 1, none⟩ = some (.slice C rs[i].cols.length c) ∧ w.cell? ⟨g, off + i * 4 + 2, none⟩ = some (.slice none 0 0) ∧ w.cell? ⟨g, off + i * 4 + 3, none⟩ = some (.slice none 0 0) ∧ ColsAt w C rs[i].cols
theorem RelsAt.below {w w' : World} {A : Option Addr} {rs : List Rel} (h : RelsAt w A rs) (hb : Below w.heap.size w w') : RelsAt w' A rs := by
  rcases h with h | ⟨g, off, hA, hg, hc⟩
  · exact .inl h
  · refine .inr ⟨g, off, hA, Nat.lt_of_lt_of_le hg hb.size, fun i hi => ?_⟩
    obtain ⟨C, c, h0, h1, h2, h3, h4⟩ := hc i hi
    exact ⟨C, c, (hb.cell (p := ⟨g, _, none⟩) hg).trans h0, (hb.cell (p := ⟨g, _, none⟩) hg).trans h1, (hb.cell (p := ⟨g, _, none⟩) hg).trans h2, (hb.cell (p := ⟨g, _, none⟩) hg).trans h3, h4.below hb⟩
def fndS : List Rel → Bytes → List Col
  | [], _ => []
  | r :: rs, s => if r.name = s then r.cols else fndS rs s
theorem fnd_hit : ∀ (rs : List Rel) (s : Bytes) (k : Nat) (h : k < rs.length), (∀ j (hj : j < k), (rs[j]'(by omega)).name ≠ s) → rs[k].name = s → fndS rs s = rs[k].cols
  | [], _, k, h, _, _ => absurd h (by simp)
  | r :: rs, s, 0, _, _, e => by unfold fndS; rw [if_pos (by simpa using e)]; rfl
  | r :: rs, s, k + 1, h, hn, e => by
    have h0 := hn 0 (by omega)
    unfold fndS
    rw [if_neg (by simpa using h0)]
    exact fnd_hit rs s k (by simpa using h) (fun j hj => by have := hn (j + 1) (by omega); simpa using this) (by simpa using e)
theorem fnd_none : ∀ (rs : List Rel) (s : Bytes), (∀ j (hj : j < rs.length), rs[j].name ≠ s) → fndS rs s = []
  | [], _, _ => rfl
  | r :: rs, s, hn => by
    have h0 := hn 0 (by simp)
    unfold fndS
    rw [if_neg (by simpa using h0)]
    exact fnd_none rs s (fun j hj => by have := hn (j + 1) (by simpa using hj); simpa using this)
def FndR (cols : List Col) (w' : World) (e : Ending) : Prop := ∃ (nm : Bytes) (C : Option Addr) (c : Nat) (b : Bool), e = .returned (.tuple #[.agg #[str nm, .slice C cols.length c, .slice none 0 0, .slice none 0 0], .bool b]) ∧ ColsAt w' C cols
set_option maxRecDepth 100000 in
set_option maxHeartbeats 1200000 in
theorem ref15_Find_any (A : Option Addr) (rs : List Rel) (c : Nat) (x : Bytes) (w : World) (h : RelsAt w A rs) (hl : rs.length ≤ 1000) :
    Calls Tryz.prog 84 #[.slice A rs.length c, str x] w fun e w' => FndR (fndS rs x) w' e ∧ Below w.heap.size w w' := by
  have HA := hide h
  clear h
  have hz0 : Below w.heap.size w (w.alloc (.cells #[str [], .slice none 0 0, .slice none 0 0, .slice none 0 0] 68)) := by (repeat (first | exact Below.refl _ _ | assumption | refine Below.drew ?_ | refine below_drewN ?_ _ | refine Below.alloc ?_ (by first | omega | simp <;> omega) _ | refine Below.setCell ?_ (by first | omega | simp <;> omega) _))
  have HB0 := hide hz0
  clear hz0
  go_enter Tryz.func84, Tryz.ntmps84
  go_wp2
  go_loopw [6] (fun i wr => ∃ k : Nat, k ≤ rs.length ∧ i = .int .i64 k ∧ Hid (∀ j (hj : j < k) (h : j < rs.length), rs[j].name ≠ x) ∧ wr = w.alloc (.cells #[str [], .slice none 0 0, .slice none 0 0, .slice none 0 0] 68)) (fun i _ => rs.length - (intOf i).toNat)
  case atStart => exact ⟨0, by omega, rfl, fun j hj => absurd hj (Nat.not_lt_zero _), rfl⟩
  case round =>
    obtain ⟨k, hk, rfl, HN, rfl⟩ := hrel
    by_cases hlt : k < rs.length
    · rcases HA.out.below HB0.out with e | ⟨g, off, rfl, hg, hc⟩
      · exact absurd hlt (by rw [e]; simp)
      obtain ⟨C, cc, c0, c1, c2, c3, hC⟩ := hc k hlt
      have HC := hide hC
      clear hc hC
      have HC0 := hide (show ∃ (D : Option Addr) (d : Nat), ColsAt w D rs[k].cols ∧ C = D from by
        rcases HA.out with e | ⟨g', off', hA', hg', hc'⟩
        · exact absurd hlt (by rw [e]; simp)
        · obtain ⟨D, d, d0, d1, d2, d3, hD⟩ := hc' k hlt
          injection hA' with hA'
          injection hA' with e1 e2
          subst e1 e2
          have hx := (HB0.out.cell (p := ⟨g, off + k * 4 + 1, none⟩) hg').trans d1
          rw [c1] at hx
          injection hx with hx
          injection hx with e3 e4 e5
          exact ⟨D, d, hD, e3⟩)
      by_cases he : rs[k].name = x
      · have HE := hide (fnd_hit rs x k hlt (fun j hj => HN.out j hj (by omega)) he)
        have hb : (rs[k].name == x) = true := by simpa using he
        clear he
        generalize rs[k] = y at *
        obtain ⟨yn, yc⟩ := y
        simp only at HE HC HC0 hb c0 c1
        obtain ⟨D, d, hD, rfl⟩ := HC0.out
        have HD := hide hD
        clear hD HC HC0
        go_wp2
        refine bodyPost_ret (v := .tuple #[.agg #[str yn, .slice C yc.length cc, .slice none 0 0, .slice none 0 0], .bool true]) (by simp [results, Tryz.results84, go_sem]) rfl ⟨⟨yn, C, cc, true, by rw [HE.out], by rw [HE.out]; exact HD.out.below (by (repeat (first | exact Below.refl _ _ | assumption | refine Below.drew ?_ | refine below_drewN ?_ _ | refine Below.alloc ?_ (by first | omega | simp <;> omega) _ | refine Below.setCell ?_ (by first | omega | simp <;> omega) _)))⟩, by (repeat (first | exact Below.refl _ _ | assumption | refine Below.drew ?_ | refine below_drewN ?_ _ | refine Below.alloc ?_ (by first | omega | simp <;> omega) _ | refine Below.setCell ?_ (by first | omega | simp <;> omega) _))⟩
      · have hb : (rs[k].name == x) = false := beq_eq_false_iff_ne.2 he
        have HR := hide (show ∀ j (hj : j < k + 1) (h : j < rs.length), rs[j].name ≠ x from fun j hj h => by
          by_cases e : j = k
          · subst e; exact he
          · exact HN.out j (by omega) h)
        clear he HC0 HC
        generalize rs[k] = y at *
        go_wp2
        exact ⟨⟨k + 1, by omega, by go_num, HR, by first | trivial | rfl⟩, by simp [intOf]; omega⟩
    · obtain rfl : k = rs.length := by omega
      have HE := hide (fnd_none rs x (fun j hj => HN.out j hj hj))
      go_wp2
      refine bodyPost_ret (v := .tuple #[.agg #[str [], .slice none 0 0, .slice none 0 0, .slice none 0 0], .bool false]) (by simp [results, Tryz.results84, go_sem]) rfl ⟨⟨[], none, 0, false, by rw [HE.out]; rfl, by rw [HE.out]; exact .inl rfl⟩, by (repeat (first | exact Below.refl _ _ | assumption | refine Below.drew ?_ | refine below_drewN ?_ _ | refine Below.alloc ?_ (by first | omega | simp <;> omega) _ | refine Below.setCell ?_ (by first | omega | simp <;> omega) _))⟩
end Go.Proofs.YtmbeeefkpgfgmaaGreatDoor
namespace Go.Proofs.YtmbeeefkpgfgmaaGreatDoor
open Go.RowKit
noncomputable def freS (cs : List Col) (n : Int) : Bytes := if h : cs.length ≤ 12 then freN n (fresh_at cs n h).choose else []
theorem freS_at {cs : List Col} {n : Int} (h : cs.length ≤ 12) : ∃ q, q < 26 ∧ freS cs n = freN n q ∧ idxS cs (freN n q) < 0 ∧ ∀ j, j < q → 0 ≤ idxS cs (freN n j) := by
  have hs := (fresh_at cs n h).choose_spec
  refine ⟨(fresh_at cs n h).choose, hs.1, ?_, hs.2⟩
  unfold freS
  rw [dif_pos h]
theorem freS_ok {cs : List Col} (n : Int) (h : cs.length ≤ 12) : nmB (freS cs n) = true ∧ (freS cs n).length = 2 := by
  obtain ⟨q, _, e, _⟩ := freS_at (n := n) h
  rw [e]
  exact ⟨freN_ok n q, rfl⟩
def namS (cs : List Col) (n : Int) : Bytes := (cs.getD (n % (cs.length : Int)).toNat col0).name
def somS (cs : List Col) (n : Int) : List Bytes := if namS cs n = namS cs (n / 16) ∨ n / 256 % 2 = 0 then [namS cs n] else [namS cs n, namS cs (n / 16)]
set_option maxRecDepth 100000 in
set_option maxHeartbeats 1000000 in
theorem base_name_any (C : Option Addr) (cs : List Col) (c : Nat) (n : Int) (w : World) (h : ColsAt w C cs) (hp : 0 < cs.length) (hl : cs.length ≤ 12) (h0 : 0 ≤ n) (h1 : n ≤ 1000000000) :
    Calls Tryz.prog 145 #[.slice C cs.length c, .int .i64 n] w fun e w' => e = .returned (str (namS cs n)) ∧ Below w.heap.size w w' := by
  rcases h with e | ⟨g, off, rfl, hg, hc⟩
  · exact absurd hp (by rw [e]; simp)
  obtain ⟨m, hm, hml⟩ : ∃ m : Nat, n % (cs.length : Int) = m ∧ m < cs.length := ⟨(n % (cs.length : Int)).toNat, by have := Int.emod_nonneg n (show (cs.length : Int) ≠ 0 by omega); omega, by have := Int.emod_lt_of_pos n (show (0 : Int) < cs.length by omega); have := Int.emod_nonneg n (show (cs.length : Int) ≠ 0 by omega); omega⟩
  have HE := hide (show namS cs n = cs[m].name from by unfold namS; rw [hm, Int.toNat_natCast, List.getD_eq_getElem?_getD, List.getElem?_eq_getElem hml]; rfl)
  obtain ⟨c0, c1, c2⟩ := hc m hml
  have hz : ¬ (cs.length : Int) = 0 := by omega
  have hb : (0 : Int) ≤ (m : Int) ∧ (m : Int) < (cs.length : Int) := by omega
  clear hc
  generalize namS cs n = r at *
  generalize cs[m] = x at *
  go_enter Tryz.func145, Tryz.ntmps145
  go_wp2
  go_ret
  exact ⟨by rw [HE.out]; first | rfl | simp, zX⟩
theorem fre_own (w : World) (c : UInt8) : (w.alloc (.cells #[byteV c] 5)).ownsRow w.heap.size 5 1 (.slice (some ⟨w.heap.size, 0, none⟩) 1 1) 1 [byteV c] :=
  ⟨by simp, .inr ⟨w.heap.size, 1, #[byteV c], rfl, Nat.le_refl _, heap_alloc_new w _, by omega, by decide, by simp, by simp⟩⟩
theorem fre_conv (w : World) (c : UInt8) (v : Int) (h : v = (c.toNat : Int)) : (convert 155 9 (.slice (some ⟨w.heap.size, 0, none⟩) 1 1)).run Tryz.prog (w.alloc (.cells #[.int .u8 v] 5)) = .ok (str [c]) (w.alloc (.cells #[.int .u8 v] 5)) := by
  subst h
  exact run_conv_own Tryz.underlying155 Tryz.underlying5 Tryz.underlying9 (b := [c]) (fre_own w c)
set_option maxRecDepth 100000 in
set_option maxHeartbeats 1000000 in
theorem base_fresh_any (C : Option Addr) (cs : List Col) (c : Nat) (n : Int) (w : World) (h : ColsAt w C cs) (hl : cs.length ≤ 12) (h0 : 0 ≤ n) (h1 : n ≤ 1000000000) :
    Calls Tryz.prog 142 #[.slice C cs.length c, .int .i64 n] w fun e w' => e = .returned (str (freS cs n)) ∧ Below w.heap.size w w' := by
  obtain ⟨q, hq, hE, hno, hyes⟩ := freS_at (n := n) hl
  have HI := hide (fun s W (hb : Below w.heap.size w W) => ref5_Index_s C cs c s W (h.below hb) (by omega))
  have HE := hide hE
  have HN := hide hno
  have HY := hide hyes
  clear h hE hno hyes
  go_enter Tryz.func142, Tryz.ntmps142
  go_wp2
  go_loopw [5] (fun i wr => ∃ k : Nat, k ≤ q ∧ i = .int .i64 k ∧ Below w.heap.size w wr) (fun i _ => 30 - (intOf i).toNat)
  case atStart => exact ⟨0, by omega, rfl, Below.refl _ _⟩
  case round =>
    obtain ⟨k, hk, rfl, hbel⟩ := hrel
    have hsz := hbel.size
    have hc : ((UInt8.ofNat (97 + ((n + (k : Int)) % 26).toNat)).toNat : Int) = 97 + (n + (k : Int)) % 26 := by rw [UInt8.toNat_ofNat_of_lt' (by show _ < 256; omega)]; omega
    obtain ⟨b, hb⟩ : ∃ b, b = UInt8.ofNat (97 + ((n + (k : Int)) % 26).toNat) := ⟨_, rfl⟩
    have HF := hide (show freN n k = [110, b] from by unfold freN; rw [hb])
    rw [← hb] at hc
    have hcv := fun W => fre_conv W b (97 + (n + (k : Int)) % 26) hc.symm
    have HCat := hide (show (⟨#[110]⟩ : ByteArray) ++ ⟨#[b]⟩ = ⟨[110, b].toArray⟩ from by apply ByteArray.ext; simp [ByteArray.data_append])
    have HX := hide (fun W hb => HI.out ⟨[110, b].toArray⟩ W hb)
    clear hb hc
    by_cases hkq : k = q
    · subst hkq
      have hneg : idxS cs [110, b] < 0 := by have := HN.out; rw [HF.out] at this; exact this
      have HX2 := hide (fun W (hb : Below w.heap.size w W) => show Calls Tryz.prog 222 #[.slice C cs.length c, .string ⟨[110, b].toArray⟩] W (fun e w' => e = .returned (.int .i64 (idxS cs [110, b])) ∧ W = w') from HX.out W hb)
      generalize idxS cs [110, b] = v at *
      clear HX
      go_wp2_with (go_at_call 222; rw [HCat.out]; refine (HX2.out _ zX).mono ?_; rintro e w' ⟨rfl, rfl⟩)
      go_ret
      exact ⟨by rw [HE.out, HF.out]; first | rfl | simp, zX⟩
    · have hpos : ¬ idxS cs [110, b] < 0 := by have := HY.out k (by omega); rw [HF.out] at this; omega
      have HX2 := hide (fun W (hb : Below w.heap.size w W) => show Calls Tryz.prog 222 #[.slice C cs.length c, .string ⟨[110, b].toArray⟩] W (fun e w' => e = .returned (.int .i64 (idxS cs [110, b])) ∧ W = w') from HX.out W hb)
      generalize idxS cs [110, b] = v at *
      clear HX
      go_wp2_with (go_at_call 222; rw [HCat.out]; refine (HX2.out _ zX).mono ?_; rintro e w' ⟨rfl, rfl⟩)
      exact ⟨⟨k + 1, by omega, by go_num, zX⟩, by simp [intOf]; omega⟩
set_option maxRecDepth 100000 in
set_option maxHeartbeats 1000000 in
theorem base_some_any (C : Option Addr) (cs : List Col) (c : Nat) (n : Int) (w : World) (h : ColsAt w C cs) (hp : 0 < cs.length) (hl : cs.length ≤ 12) (h0 : 0 ≤ n) (h1 : n ≤ 1000000000) :
    Calls Tryz.prog 143 #[.slice C cs.length c, .int .i64 n] w fun e w' => (∃ A, e = .returned (.slice (some ⟨A, 0, none⟩) (somS cs n).length (somS cs n).length) ∧ w.heap.size ≤ A ∧ w'.heap[A]? = some (.cells ((somS cs n).map str).toArray 9 (0, 0))) ∧ Below w.heap.size w w' := by
  have HA := hide (fun W (hb : Below w.heap.size w W) => base_name_any C cs c n W (h.below hb) hp hl h0 h1)
  have HB := hide (fun W (hb : Below w.heap.size w W) => base_name_any C cs c (n / 16) W (h.below hb) hp hl (by omega) (by omega))
  have HE := hide (show somS cs n = if namS cs n = namS cs (n / 16) ∨ n / 256 % 2 = 0 then [namS cs n] else [namS cs n, namS cs (n / 16)] from rfl)
  clear h
  have h00 := Below.refl w.heap.size w
  generalize namS cs n = a at *
  generalize namS cs (n / 16) = b at *
  generalize somS cs n = r at *
  by_cases hab : a = b
  · have hb : (a == b) = true := by simpa using hab
    have HR := hide (HE.out.trans (if_pos (.inl hab)))
    clear HE hab
    go_enter Tryz.func143, Tryz.ntmps143
    go_wp2_with (first
      | (go_at_call 145; refine (HA.out _ h00).mono ?_; rintro e w1 ⟨rfl, hb1⟩; clear h00)
      | (go_at_call 145; refine (HB.out _ hb1).mono ?_; rintro e w2 ⟨rfl, hb2⟩))
    go_ret
    rw [HR.out]
    exact ⟨⟨w2.heap.size, rfl, (bel2 hb2 hb1).size, heap_alloc_new _ _⟩, (bel2 hb2 hb1).alloc (bel2 hb2 hb1).size _⟩
  have hb : (a == b) = false := beq_eq_false_iff_ne.2 hab
  by_cases hn : n / 256 % 2 = 0
  · have HR := hide (HE.out.trans (if_pos (.inr hn)))
    have hnb : (n / 256 % 2 == 0) = true := by simpa using hn
    clear HE hab
    go_enter Tryz.func143, Tryz.ntmps143
    go_wp2_with (first
      | (go_at_call 145; refine (HA.out _ h00).mono ?_; rintro e w1 ⟨rfl, hb1⟩; clear h00)
      | (go_at_call 145; refine (HB.out _ hb1).mono ?_; rintro e w2 ⟨rfl, hb2⟩))
    go_ret
    rw [HR.out]
    exact ⟨⟨w2.heap.size, rfl, (bel2 hb2 hb1).size, heap_alloc_new _ _⟩, (bel2 hb2 hb1).alloc (bel2 hb2 hb1).size _⟩
  · have HR := hide (HE.out.trans (if_neg (by simp [hab, hn])))
    have hnb : (n / 256 % 2 == 0) = false := beq_eq_false_iff_ne.2 hn
    clear HE hab
    go_enter Tryz.func143, Tryz.ntmps143
    go_wp2_with (first
      | (go_at_call 145; refine (HA.out _ h00).mono ?_; rintro e w1 ⟨rfl, hb1⟩; clear h00)
      | (go_at_call 145; refine (HB.out _ hb1).mono ?_; rintro e w2 ⟨rfl, hb2⟩))
    go_ret
    rw [HR.out]
    exact ⟨⟨w2.heap.size, rfl, (bel2 hb2 hb1).size, heap_alloc_new _ _⟩, (bel2 hb2 hb1).alloc (bel2 hb2 hb1).size _⟩
end Go.Proofs.YtmbeeefkpgfgmaaGreatDoor
namespace Go.Proofs.YtmbeeefkpgfgmaaGreatDoor
open Go.RowKit
def ordC : List Col := [⟨[105, 100], 2, false⟩, ⟨[99], 3, false⟩, ⟨[97, 116], 4, false⟩, ⟨[118], 2, true⟩]
def cusC : List Col := [⟨[99], 3, false⟩, ⟨[97, 116], 4, false⟩, ⟨[114], 3, true⟩, ⟨[107], 2, false⟩]
def retN : Bytes := [114, 101, 116, 117, 114, 110, 115]
def relL (last : Bytes) : List Rel := [⟨[111, 114, 100, 101, 114, 115], ordC⟩, ⟨[99, 117, 115, 116, 111, 109, 101, 114, 115], cusC⟩, ⟨last, ordC⟩]
theorem ordC_good : ColG ordC := ⟨by intro c hc; simp only [ordC, List.mem_cons, List.not_mem_nil, or_false] at hc; rcases hc with rfl | rfl | rfl | rfl <;> decide, by decide, by decide⟩
theorem cusC_good : ColG cusC := ⟨by intro c hc; simp only [cusC, List.mem_cons, List.not_mem_nil, or_false] at hc; rcases hc with rfl | rfl | rfl | rfl <;> decide, by decide, by decide⟩
theorem relL_good (last : Bytes) : ∀ r ∈ relL last, ColG r.cols := by
  intro r hr
  simp only [relL, List.mem_cons, List.not_mem_nil, or_false] at hr
  rcases hr with rfl | rfl | rfl
  · exact ordC_good
  · exact cusC_good
  · exact ordC_good
abbrev relCells (B1 B2 : Nat) (last : Bytes) : Array Value := #[str [111, 114, 100, 101, 114, 115], .slice (some ⟨B1, 0, none⟩) 4 4, .slice none 0 0, .slice none 0 0, str [99, 117, 115, 116, 111, 109, 101, 114, 115], .slice (some ⟨B2, 0, none⟩) 4 4, .slice none 0 0, .slice none 0 0, str last, .slice (some ⟨B1, 0, none⟩) 4 4, .slice none 0 0, .slice none 0 0]
def RelBlk (w : World) (g : Nat) (last : Bytes) : Prop := ∃ B1 B2, w.heap[g]? = some (.cells (relCells B1 B2 last) 68) ∧ w.heap[B1]? = some (.cells (coCells ordC).toArray 105) ∧ w.heap[B2]? = some (.cells (coCells cusC).toArray 105) ∧ B1 ≠ g ∧ B2 ≠ g
theorem cols_block {w : World} {B : Nat} {cs : List Col} (h : w.heap[B]? = some (.cells (coCells cs).toArray 105)) : ColsAt w (some ⟨B, 0, none⟩) cs := by
  refine .inr ⟨B, 0, rfl, lt_of_heap h, fun i hi => ?_⟩
  have hc : ∀ j, j < 3 → w.cell? ⟨B, 0 + i * 3 + j, none⟩ = cs[i].cells[j]? := fun j hj => by
    rw [← coCells_at cs i hi j hj, Nat.zero_add, cell_of_heap h]
    simp
  exact ⟨hc 0 (by omega), hc 1 (by omega), hc 2 (by omega)⟩
theorem RelBlk.at {w : World} {g : Nat} {last : Bytes} (h : RelBlk w g last) : RelsAt w (some ⟨g, 0, none⟩) (relL last) := by
  obtain ⟨B1, B2, hg, h1, h2, _, _⟩ := h
  refine .inr ⟨g, 0, rfl, lt_of_heap hg, fun i hi => ?_⟩
  have hi3 : i < 3 := hi
  match i, hi3 with
  | 0, _ => exact ⟨some ⟨B1, 0, none⟩, 4, cell_of_heap hg 0, cell_of_heap hg 1, cell_of_heap hg 2, cell_of_heap hg 3, cols_block h1⟩
  | 1, _ => exact ⟨some ⟨B2, 0, none⟩, 4, cell_of_heap hg 4, cell_of_heap hg 5, cell_of_heap hg 6, cell_of_heap hg 7, cols_block h2⟩
  | 2, _ => exact ⟨some ⟨B1, 0, none⟩, 4, cell_of_heap hg 8, cell_of_heap hg 9, cell_of_heap hg 10, cell_of_heap hg 11, cols_block h1⟩
set_option maxRecDepth 100000 in
set_option maxHeartbeats 2000000 in
theorem base_Relations_any (w : World) : Calls Tryz.prog 33 #[] w fun e w' => (∃ g, e = .returned (.slice (some ⟨g, 0, none⟩) 3 3) ∧ w.heap.size ≤ g ∧ RelBlk w' g retN) ∧ Below w.heap.size w w' := by
  go_enter Tryz.func33, Tryz.ntmps33
  go_wp2
  go_ret
  refine ⟨⟨w.heap.size + 1 + 1, rfl, by omega, ⟨w.heap.size, w.heap.size + 1, ?_, ?_, ?_, by omega, by omega⟩⟩, zX⟩
  · have h : ∀ (W : World) (o : Obj) (k : Nat), k = W.heap.size → (W.alloc o).heap[k]? = some o := fun W o k e => by rw [e]; exact heap_alloc_new W o
    exact h _ _ _ (by simp)
  · exact heap_of_below (B := w.heap.size + 1) zX (Nat.lt_succ_self _)
  · have h : ∀ (W W' : World) (o : Obj) (k : Nat), k = W.heap.size → Below (k + 1) (W.alloc o) W' → W'.heap[k]? = some o := fun W W' o k e hb => by subst e; exact heap_of_below hb (Nat.lt_succ_self _)
    exact h (w.alloc (.cells (coCells ordC).toArray 105)) _ _ _ (by simp) zX
end Go.Proofs.YtmbeeefkpgfgmaaGreatDoor
