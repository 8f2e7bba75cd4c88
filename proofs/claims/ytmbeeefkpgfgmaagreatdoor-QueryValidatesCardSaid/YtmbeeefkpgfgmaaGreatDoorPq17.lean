/- Contracts: ref11.list, source, item, unused, Windowed. Contracts: ref11.item, Windowed. Contracts: ref11.derive, ref11.join. Contracts: ref11.join. -/
import Derived.Test.YtmbeeefkpgfgmaaGreatDoorPq08
import Derived.Test.YtmbeeefkpgfgmaaGreatDoorPq07
set_option linter.unusedVariables false
set_option linter.unusedSimpArgs false
namespace Go.Proofs.YtmbeeefkpgfgmaaGreatDoor
open Go.RowKit
theorem strs_take {w : World} {g off : Nat} {l : List Bytes} (hg : g < w.heap.size) (hc : ∀ j (h : j < l.length), w.cell? ⟨g, off + j, none⟩ = some (str l[j])) (k : Nat) : StrsAt w (some ⟨g, off, none⟩) (l.take k) :=
  .inr ⟨g, off, rfl, hg, fun i hi => by
    have h1 : i < l.length := by rw [List.length_take] at hi; omega
    rw [hc i h1, List.getElem_take]⟩
theorem nmB_str (x : Bytes) (W : World) : Calls Tryz.prog 104 #[str x] W fun e w' => e = .returned (.bool (nmB x)) ∧ Below W.heap.size W w' := ref8_IsColumn_any ⟨x.toArray⟩ W
theorem qlB_str (x : Bytes) (W : World) (h : x.length ≤ maxLen) : Calls Tryz.prog 60 #[str x] W fun e w' => e = .returned (.bool (qlB x)) ∧ Below W.heap.size W w' := ref8_IsReference_any ⟨x.toArray⟩ W (by show x.toArray.size ≤ _; simpa using h)
theorem has_str (A : Option Addr) (l : List Bytes) (c : Nat) (x : Bytes) (W : World) (h : StrsAt W A l) (hl : l.length ≤ 1000000) : Calls Tryz.prog 20 #[.slice A l.length c, str x] W fun e w' => e = .returned (.bool (decide (x ∈ l))) ∧ W = w' := by
  refine (ref5_Has_any A l c ⟨x.toArray⟩ W h hl).mono ?_
  rintro e w' ⟨rfl, rfl⟩
  refine ⟨ret_bool ?_, rfl⟩
  show l.contains x = _
  cases hc : l.contains x
  · symm; rw [decide_eq_false_iff_not]; intro hm; rw [← List.contains_iff_mem, hc] at hm; cases hm
  · symm; rw [decide_eq_true_eq]; exact List.contains_iff_mem.1 hc
theorem listE_at {l : List Bytes} {k : Nat} (h : k < l.length) : listE l k = if nmB l[k] = true then (if l[k] ∈ l.take k then 6 else 0) else 4 := by
  unfold listE; rw [List.getD_eq_getElem?_getD, List.getElem?_eq_getElem h]; rfl
set_option maxRecDepth 100000 in
set_option maxHeartbeats 1000000 in
theorem ref11_list_any (A : Option Addr) (l : List Bytes) (c m : Nat) (w : World) (h : StrsAt w A l) (hl : l.length ≤ 1000000) (hm : m ≤ 1) (hcp : l.length ≤ c) :
    Calls Tryz.prog 63 #[.slice A l.length c, .int .i64 m] w fun e w' => e = .returned (.int .i64 (listS l m)) ∧ Below w.heap.size w w' := by
  have HA := hide h
  clear h
  by_cases h1 : l.length < m
  · have HE := hide (show listS l m = 2 from by unfold listS; rw [if_pos (.inl h1)])
    go_enter Tryz.func63, Tryz.ntmps63
    go_wp2
    go_ret
    exact ⟨ret_int HE.out.symm, Below.refl _ _⟩
  by_cases h2 : 12 < l.length
  · have HE := hide (show listS l m = 2 from by unfold listS; rw [if_pos (.inr h2)])
    go_enter Tryz.func63, Tryz.ntmps63
    go_wp2
    go_ret
    exact ⟨ret_int HE.out.symm, Below.refl _ _⟩
  have HE := hide (show listS l m = firstE (listE l) l.length from by unfold listS; rw [if_neg (by omega)])
  go_enter Tryz.func63, Tryz.ntmps63
  go_wp2
  go_loopw [5] (fun i wr => ∃ k : Nat, k ≤ l.length ∧ i = .int .i64 k ∧ Hid (∀ j, j < k → listE l j = 0) ∧ Below w.heap.size w wr) (fun i _ => l.length - (intOf i).toNat)
  case atStart => exact ⟨0, by omega, rfl, fun j hj => absurd hj (Nat.not_lt_zero _), Below.refl _ _⟩
  case round =>
    obtain ⟨k, hk, rfl, HZ, hbel⟩ := hrel
    by_cases hlt : k < l.length
    · rcases HA.out.below hbel with e | ⟨g, off, rfl, hg, hc⟩
      · exact absurd hlt (by rw [e]; simp)
      have c0 := hc k hlt
      have HC := hide (fun W => nmB_str l[k] W)
      have HH := hide (fun W (hb : Below wr.heap.size wr W) => by
        have := has_str (some ⟨g, off, none⟩) (l.take k) c l[k] W ((strs_take hg hc k).below hb) (by rw [List.length_take]; omega)
        rw [List.length_take, Nat.min_eq_left (Nat.le_of_lt hlt)] at this
        exact this)
      have HT := hide (listE_at hlt)
      have HC2 := hide (fun W (hb : Below wr.heap.size wr W) => (hb.cell (p := ⟨g, off + k, none⟩) hg).trans c0)
      have HF := hide (fun x (e : listE l k = x) (hx : x ≠ 0) => (HE.out.trans (firstE_hit HZ.out (by rw [e]; exact hx) hlt)).trans e)
      have HN := hide (fun (e : listE l k = 0) => step_lt HZ.out e)
      have hkc : k ≤ c := by omega
      clear hc
      generalize l[k] = x at *
      by_cases hx : nmB x = true
      rotate_left
      · rw [if_neg hx] at HT
        have hxf : nmB x = false := by simpa using hx
        rw [hxf] at HC
        have HR := hide (HF.out 4 HT.out (by decide))
        go_wp2_with (go_at_call 104; refine (HC.out _).mono ?_; rintro e w1 ⟨rfl, hb1⟩)
        go_ret
        exact ⟨ret_int HR.out.symm, bel2 hb1 hbel⟩
      rw [hx] at HC
      rw [if_pos hx] at HT
      by_cases hin : x ∈ l.take k
      · rw [if_pos hin] at HT
        have hinb : decide (x ∈ l.take k) = true := by simpa using hin
        rw [hinb] at HH
        have HR := hide (HF.out 6 HT.out (by decide))
        clear hin hinb hx
        go_wp2_with (go_at_call 104; refine (HC.out _).mono ?_; rintro e w1 ⟨rfl, hb1⟩; have c1 := HC2.out _ hb1)
        go_region_with (go_at_call 20; refine (HH.out _ (by first | exact hb1 | exact below_drewN hb1 1 | exact zX)).mono ?_; rintro e w' ⟨rfl, rfl⟩)
        all_goals (try go_wp2)
        all_goals
          go_ret
          exact ⟨ret_int HR.out.symm, by first | exact bel2 hb1 hbel | exact below_drewN (bel2 hb1 hbel) 1 | exact zX⟩
      · rw [if_neg hin] at HT
        have hinb : decide (x ∈ l.take k) = false := by simpa using hin
        rw [hinb] at HH
        have HR := hide (HN.out HT.out)
        clear hin hinb hx
        go_wp2_with (go_at_call 104; refine (HC.out _).mono ?_; rintro e w1 ⟨rfl, hb1⟩; have c1 := HC2.out _ hb1)
        go_region_with (go_at_call 20; refine (HH.out _ (by first | exact hb1 | exact below_drewN hb1 1 | exact zX)).mono ?_; rintro e w' ⟨rfl, rfl⟩)
        all_goals (try go_wp2)
        all_goals exact ⟨⟨k + 1, by omega, by go_num, HR, by first | exact bel2 hb1 hbel | exact below_drewN (bel2 hb1 hbel) 1 | exact zX⟩, by simp [intOf]; omega⟩
    · obtain rfl : k = l.length := by omega
      have HR := hide (HE.out.trans (firstE_none HZ.out))
      go_wp2
      go_ret
      exact ⟨ret_int HR.out.symm, hbel⟩
theorem ref11_source_any (x : Bytes) (w : World) (hx : x.length ≤ maxLen) : Calls Tryz.prog 65 #[str x] w fun e w' => e = .returned (.int .i64 (readE x)) ∧ Below w.heap.size w w' := by
  have H := hide (fun W => qlB_str x W hx)
  clear hx
  by_cases hs : x = selfB
  · subst hs
    clear H
    go_enter Tryz.func65, Tryz.ntmps65
    go_wp2
    go_ret
    exact ⟨ret_int (by decide), Below.refl _ _⟩
  have hne : (x == [115, 101, 108, 102]) = false := beq_eq_false_iff_ne.2 hs
  have HE := hide (show readE x = if qlB x = true then 0 else 4 from by unfold readE; rw [if_neg hs])
  clear hs
  generalize qlB x = q at *
  go_enter Tryz.func65, Tryz.ntmps65
  cases q
  all_goals
    go_wp2_with (go_at_call 60; refine (H.out _).mono ?_; rintro e w1 ⟨rfl, hb1⟩)
    go_ret
    exact ⟨ret_int HE.out.symm, hb1⟩
set_option maxHeartbeats 4000000 in
theorem unused_go (op : Int) (src : Bytes) (nA : Option Addr) (ln nC : Nat) (oA : Option Addr) (lo oC : Nat) (iA : Option Addr) (li iC : Nat) (cA : Option Addr) (lc cC : Nat) (w : World) (h0 : 0 ≤ op) (h1 : op ≤ 12) :
    Calls Tryz.prog 59 #[.agg #[.int .i64 op, str src, .slice nA ln nC, .slice oA lo oC, .slice iA li iC, .slice cA lc cC]] w fun e w' => e = .returned (.bool (unusedB op src ln lo li lc)) ∧ Below w.heap.size w w' := by
  have hop : op = 0 ∨ op = 1 ∨ op = 2 ∨ op = 3 ∨ op = 4 ∨ op = 5 ∨ op = 6 ∨ op = 7 ∨ op = 8 ∨ op = 9 ∨ op = 10 ∨ op = 11 ∨ op = 12 := by omega
  rcases hop with rfl | rfl | rfl | rfl | rfl | rfl | rfl | rfl | rfl | rfl | rfl | rfl | rfl
  all_goals
    go_enter Tryz.func59, Tryz.ntmps59
    go_wp2
    all_goals
      go_ret
      exact ⟨ret_bool (by simp_all [unusedB] <;> first | omega | (cases lc <;> simp) | (cases src <;> simp)), by (repeat (first | exact Below.refl _ _ | assumption | refine Below.drew ?_ | refine below_drewN ?_ _ | refine Below.alloc ?_ (by first | omega | simp <;> omega) _ | refine Below.setCell ?_ (by first | omega | simp <;> omega) _))⟩
theorem ref11_unused_any (s : Stp) (a : Adr) (w : World) (h0 : 0 ≤ s.op) (h1 : s.op ≤ 12) :
    Calls Tryz.prog 59 #[s.agg a] w fun e w' => e = .returned (.bool (unusedB s.op s.src s.names.length s.others.length s.items.length s.cond.length)) ∧ Below w.heap.size w w' :=
  unused_go _ _ _ _ _ _ _ _ _ _ _ _ _ _ w h0 h1
end Go.Proofs.YtmbeeefkpgfgmaaGreatDoor
namespace Go.Proofs.YtmbeeefkpgfgmaaGreatDoor
open Go.RowKit
theorem box5 {w w1 : World} {a b c d e : Value} {t : TypeId} (h : Below (w.heap.size + 1) (w.alloc (.cells #[a, b, c, d, e] t)) w1) :
    w1.cell? ⟨w.heap.size, 0, none⟩ = some a ∧ w1.cell? ⟨w.heap.size, 1, none⟩ = some b ∧ w1.cell? ⟨w.heap.size, 2, none⟩ = some c ∧ w1.cell? ⟨w.heap.size, 3, none⟩ = some d ∧ w1.cell? ⟨w.heap.size, 4, none⟩ = some e ∧ w.heap.size < w1.heap.size := by
  have hheap := heap_of_below h (Nat.lt_succ_self _)
  exact ⟨cell_of_heap hheap 0, cell_of_heap hheap 1, cell_of_heap hheap 2, cell_of_heap hheap 3, cell_of_heap hheap 4, lt_of_heap hheap⟩
def shapeB (x : It) (fB cB nB eB : Bool) : Bool := (!fB && x.fn != 0) || (!cB && x.col != []) || (!nB && x.num != 0) || (!eB && x.expr.length != 0)
theorem itemE_at {its : List It} {i : Nat} (h : i < its.length) (fB cB nB eB : Bool) :
    itemE its i fB cB nB eB = if shapeB its[i] fB cB nB eB = true then 8 else if nmB its[i].name = false then 4 else if its[i].name ∈ (its.take i).map It.name then 6 else 0 := by
  unfold itemE
  have e : its.getD i it0 = its[i] := by rw [List.getD_eq_getElem?_getD, List.getElem?_eq_getElem h]; rfl
  simp only [e]
  have hs : (shapeB its[i] fB cB nB eB = true) ↔ (fB = false ∧ its[i].fn ≠ 0) ∨ (cB = false ∧ its[i].col ≠ []) ∨ (nB = false ∧ its[i].num ≠ 0) ∨ (eB = false ∧ its[i].expr ≠ []) := by
    unfold shapeB
    simp [or_assoc]
  by_cases hb : shapeB its[i] fB cB nB eB = true
  · rw [if_pos hb, if_pos (hs.1 hb)]
  · rw [if_neg hb, if_neg (fun h => hb (hs.2 h))]
def IsKind (fB cB nB eB : Bool) : Prop := (fB = false ∧ cB = true ∧ nB = false ∧ eB = false) ∨ (fB = false ∧ cB = false ∧ nB = false ∧ eB = true) ∨ (fB = true ∧ cB = true ∧ nB = false ∧ eB = false) ∨ (fB = true ∧ cB = true ∧ nB = true ∧ eB = false)
set_option maxRecDepth 100000 in
set_option maxHeartbeats 4000000 in
theorem ref11_item_any (A : Option Addr) (its : List It) (c i : Nat) (fB cB nB eB : Bool) (w : World) (h : ItsAt w A its) (hi : i < its.length) (hl : its.length ≤ 1000000) (hk : IsKind fB cB nB eB) :
    Calls Tryz.prog 103 #[.slice A its.length c, .int .i64 i, .bool fB, .bool cB, .bool nB, .bool eB] w fun e w' => e = .returned (.int .i64 (itemE its i fB cB nB eB)) ∧ Below w.heap.size w w' := by
  rcases h with e | ⟨g, off, rfl, hg, hc⟩
  · exact absurd hi (by rw [e]; simp)
  obtain ⟨c0, c1, c2, c3, E, ec, c4, hE⟩ := hc i hi
  clear hE
  have HI := hide (fun k (hk : k < i) W (hb : Below w.heap.size w W) => (hb.cell (p := ⟨g, off + k * 5, none⟩) hg).trans (hc k (by omega)).1)
  have HX := hide (itemE_at hi fB cB nB eB)
  have HM := hide (fun k (hk : k < i) (e : (its[k]'(by omega)).name = its[i].name) => show its[i].name ∈ (its.take i).map It.name from by
    rw [← e]
    refine List.mem_map.2 ⟨its[k]'(by omega), ?_, rfl⟩
    rw [List.mem_iff_getElem]
    exact ⟨k, by rw [List.length_take]; omega, List.getElem_take⟩)
  have HO := hide (fun (hn : ∀ k (hk : k < i), (its[k]'(by omega)).name ≠ its[i].name) (hm : its[i].name ∈ (its.take i).map It.name) => by
    obtain ⟨y, hy, e⟩ := List.mem_map.1 hm
    obtain ⟨k, hk, rfl⟩ := List.mem_iff_getElem.1 hy
    rw [List.length_take] at hk
    rw [List.getElem_take] at e
    exact hn k (by omega) e)
  have HC := hide (fun W => nmB_str its[i].name W)
  generalize itemE its i fB cB nB eB = r at *
  obtain ⟨x, hx⟩ : ∃ x, x = its[i] := ⟨_, rfl⟩
  rw [← hx] at c0 c1 c2 c3 c4 HX HM HO HC
  clear hx hc
  obtain ⟨xn, xf, xc, xm, xe⟩ := x
  simp only [shapeB] at *
  generalize xe.length = le at *
  by_cases hsh : ((!fB && xf != 0) || (!cB && xc != []) || (!nB && xm != 0) || (!eB && le != 0)) = true
  · have HR := hide (show r = 8 from by have := HX.out; rw [if_pos hsh] at this; exact this)
    clear HX HM HO HC HI
    rcases hk with ⟨rfl, rfl, rfl, rfl⟩ | ⟨rfl, rfl, rfl, rfl⟩ | ⟨rfl, rfl, rfl, rfl⟩ | ⟨rfl, rfl, rfl, rfl⟩
    all_goals
      go_enter Tryz.func103, Tryz.ntmps103
      go_wp2_with (exfalso; simp_all; done)
      all_goals first | (go_ret; exact ⟨ret_int HR.out.symm, zX⟩) | (exfalso; simp_all; done)
  have HX2 := hide (show r = if nmB xn = false then 4 else if xn ∈ (its.take i).map It.name then 6 else 0 from by have := HX.out; rw [if_neg hsh] at this; exact this)
  clear HX
  have hshf : ((!fB && xf != 0) || (!cB && xc != []) || (!nB && xm != 0) || (!eB && le != 0)) = false := by simpa using hsh
  simp only [Bool.or_eq_false_iff] at hshf
  obtain ⟨⟨⟨p1, p2⟩, p3⟩, p4⟩ := hshf
  clear hsh
  have hgo : Calls Tryz.prog 103 #[.slice (some ⟨g, off, none⟩) its.length c, .int .i64 i, .bool fB, .bool cB, .bool nB, .bool eB] w fun e w' => e = .returned (.int .i64 r) ∧ Below w.heap.size w w' := by
    cases hx : nmB xn
    · rw [hx] at HC HX2
      have HR := hide (HX2.out.trans (if_pos rfl))
      clear HX2 HM HO HI hx
      rcases hk with ⟨rfl, rfl, rfl, rfl⟩ | ⟨rfl, rfl, rfl, rfl⟩ | ⟨rfl, rfl, rfl, rfl⟩ | ⟨rfl, rfl, rfl, rfl⟩
      all_goals
        simp only [Bool.not_true, Bool.not_false, Bool.true_and, Bool.false_and] at p1 p2 p3 p4
        go_enter Tryz.func103, Tryz.ntmps103
        go_wp2_with (go_at_call 104; refine (HC.out _).mono ?_; rintro e w1 ⟨rfl, hb1⟩)
        all_goals first | (exfalso; simp_all; done) | skip
        go_ret
        exact ⟨ret_int HR.out.symm, box_below (below_go (Below.refl (w.heap.size + 1) (w.alloc (.cells #[str xn, .int .i64 xf, str xc, .int .i64 xm, .slice E le ec] 61))) (by simp) hb1)⟩
    · rw [hx] at HC HX2
      have HX3 := hide (HX2.out.trans (if_neg (by decide)))
      clear HX2 hx
      rcases hk with ⟨rfl, rfl, rfl, rfl⟩ | ⟨rfl, rfl, rfl, rfl⟩ | ⟨rfl, rfl, rfl, rfl⟩ | ⟨rfl, rfl, rfl, rfl⟩
      all_goals
        simp only [Bool.not_true, Bool.not_false, Bool.true_and, Bool.false_and] at p1 p2 p3 p4
        go_enter Tryz.func103, Tryz.ntmps103
        go_wp2_with (go_at_call 104; refine (HC.out _).mono ?_; rintro e w1 ⟨rfl, hb1⟩)
        all_goals first | (exfalso; simp_all; done) | skip
        have hbx := below_go (Below.refl (w.heap.size + 1) (w.alloc (.cells #[str xn, .int .i64 xf, str xc, .int .i64 xm, .slice E le ec] 61))) (by simp) hb1
        go_loopw [14] (fun z wr => ∃ k : Nat, k ≤ i ∧ z = .int .i64 k ∧ Hid (∀ j (hj : j < k) (hi' : j < i), (its[j]'(by omega)).name ≠ xn) ∧ Below (w.heap.size + 1) (w.alloc (.cells #[str xn, .int .i64 xf, str xc, .int .i64 xm, .slice E le ec] 61)) wr) (fun z _ => i - (intOf z).toNat)
        case atStart => exact ⟨0, by omega, rfl, fun j hj => absurd hj (Nat.not_lt_zero _), hbx⟩
        case round =>
          obtain ⟨k, hk, rfl, HZ, hbel⟩ := hrel
          have hbw := box_below hbel
          obtain ⟨m0, m1, m2, m3, m4, hlw⟩ := box5 hbel
          have hgw : g < wr.heap.size := Nat.lt_of_lt_of_le hg hbw.size
          by_cases hlt : k < i
          · have d0 := HI.out k hlt wr hbw
            have HMk := hide (HM.out k hlt)
            have HZk := hide (fun (hne : (its[k]'(by omega)).name ≠ xn) => show ∀ j (hj : j < k + 1) (hi' : j < i), (its[j]'(by omega)).name ≠ xn from fun j hj hi' => by
              by_cases e : j = k
              · subst e; exact hne
              · exact HZ.out j (by omega) hi')
            generalize (its[k]'(by omega)).name = y at *
            by_cases hy : y = xn
            · subst hy
              have HR := hide (HX3.out.trans (if_pos (HMk.out rfl)))
              clear HX3 HM HO HZ HI HMk HZk
              go_wp2
              try go_region
              all_goals (try go_wp2)
              all_goals (go_ret; exact ⟨ret_int HR.out.symm, by first | exact hbw | exact below_drewN hbw 1 | exact zX⟩)
            · have hyb : (y == xn) = false := beq_eq_false_iff_ne.2 hy
              have HR := hide (HZk.out hy)
              clear HX3 HM HO HZ HI HMk HZk
              go_wp2
              try go_region
              all_goals (try go_wp2)
              all_goals exact ⟨⟨k + 1, by omega, by go_num, HR, by first | exact hbel | exact below_drewN hbel 1 | exact zX⟩, by simp [intOf]; omega⟩
          · obtain rfl : k = i := by omega
            have HR := hide (HX3.out.trans (if_neg (HO.out fun j hj => HZ.out j hj hj)))
            go_wp2
            go_ret
            exact ⟨ret_int HR.out.symm, hbw⟩
  exact hgo
end Go.Proofs.YtmbeeefkpgfgmaaGreatDoor
namespace Go.Proofs.YtmbeeefkpgfgmaaGreatDoor
open Go.RowKit
def itemF (its : List It) (fB cB nB eB : Bool) (own : It → Int) (i : Nat) : Int := if itemE its i fB cB nB eB = 0 then own (its.getD i it0) else itemE its i fB cB nB eB
theorem itemF_at {its : List It} {i : Nat} (h : i < its.length) (fB cB nB eB : Bool) (own : It → Int) : itemF its fB cB nB eB own i = if itemE its i fB cB nB eB = 0 then own its[i] else itemE its i fB cB nB eB := by
  unfold itemF; rw [List.getD_eq_getElem?_getD, List.getElem?_eq_getElem h]; rfl
theorem itemsS_in {its : List It} {m : Nat} {fB cB nB eB : Bool} {own : It → Int} (h : ¬ (its.length < m ∨ 12 < its.length)) : itemsS its m fB cB nB eB own = firstE (itemF its fB cB nB eB own) its.length := by
  unfold itemsS; rw [if_neg h]; rfl
set_option maxRecDepth 100000 in
set_option maxHeartbeats 2000000 in
theorem ref11_derive_any (s : Stp) (a : Adr) (w : World) (hA : s.At w a) (ho : s.ok) :
    Calls Tryz.prog 62 #[s.agg a] w fun e w' => e = .returned (.int .i64 (itemsS s.items 1 false false false true (fun x => validE x.expr))) ∧ Below w.heap.size w w' := by
  have HI := hide hA.items
  have HO := hide ho.item
  have hli := ho.items
  clear hA ho
  obtain ⟨op, src, names, others, its, cond⟩ := s
  obtain ⟨nA, nC, oA, oC, iA, iC, cA, cC⟩ := a
  simp only at HI HO hli ⊢
  show Calls Tryz.prog 62 #[.agg #[.int .i64 op, str src, .slice nA names.length nC, .slice oA others.length oC, .slice iA its.length iC, .slice cA cond.length cC]] w _
  generalize names.length = ln
  generalize others.length = lo
  generalize cond.length = lc
  by_cases h1 : its.length < 1
  · have HE := hide (show itemsS its 1 false false false true (fun x => validE x.expr) = 2 from by unfold itemsS; rw [if_pos (.inl h1)])
    go_enter Tryz.func62, Tryz.ntmps62
    go_wp2
    all_goals first | (exfalso; omega) | skip
    go_ret
    exact ⟨ret_int HE.out.symm, by (repeat (first | exact Below.refl _ _ | assumption | refine Below.drew ?_ | refine below_drewN ?_ _ | refine Below.alloc ?_ (by first | omega | simp <;> omega) _ | refine Below.setCell ?_ (by first | omega | simp <;> omega) _))⟩
  by_cases h2 : 12 < its.length
  · have HE := hide (show itemsS its 1 false false false true (fun x => validE x.expr) = 2 from by unfold itemsS; rw [if_pos (.inr h2)])
    go_enter Tryz.func62, Tryz.ntmps62
    go_wp2
    all_goals first | (exfalso; omega) | skip
    go_ret
    exact ⟨ret_int HE.out.symm, by (repeat (first | exact Below.refl _ _ | assumption | refine Below.drew ?_ | refine below_drewN ?_ _ | refine Below.alloc ?_ (by first | omega | simp <;> omega) _ | refine Below.setCell ?_ (by first | omega | simp <;> omega) _))⟩
  have HE := hide (itemsS_in (fB := false) (cB := false) (nB := false) (eB := true) (own := fun x => validE x.expr) (its := its) (m := 1) (by omega))
  generalize itemsS its 1 false false false true (fun x => validE x.expr) = r at *
  have hbox : Below w.heap.size w (w.alloc (.cells #[.int .i64 op, str src, .slice nA ln nC, .slice oA lo oC, .slice iA its.length iC, .slice cA lc cC] 27)) := by (repeat (first | exact Below.refl _ _ | assumption | refine Below.drew ?_ | refine below_drewN ?_ _ | refine Below.alloc ?_ (by first | omega | simp <;> omega) _ | refine Below.setCell ?_ (by first | omega | simp <;> omega) _))
  have HB := hide hbox
  clear hbox
  go_enter Tryz.func62, Tryz.ntmps62
  go_wp2
  all_goals first | (exfalso; omega) | skip
  go_loopw [3] (fun i wr => ∃ k : Nat, k ≤ its.length ∧ i = .int .i64 k ∧ Hid (∀ j, j < k → itemF its false false false true (fun x => validE x.expr) j = 0) ∧ Below (w.heap.size + 1) (w.alloc (.cells #[.int .i64 op, str src, .slice nA ln nC, .slice oA lo oC, .slice iA its.length iC, .slice cA lc cC] 27)) wr) (fun i _ => its.length - (intOf i).toNat)
  case atStart => exact ⟨0, by omega, rfl, fun j hj => absurd hj (Nat.not_lt_zero _), Below.refl _ _⟩
  case round =>
    obtain ⟨k, hk, rfl, HZ, hbel⟩ := hrel
    have hbw := box_below hbel
    obtain ⟨m0, m1, m2, m3, m4, m5, hlw⟩ := box6 hbel
    by_cases hlt : k < its.length
    · rcases HI.out.below hbw with e | ⟨g, off, rfl, hg, hc⟩
      · exact absurd hlt (by rw [e]; simp)
      obtain ⟨c0, c1, c2, c3, E, ec, c4, hE⟩ := hc k hlt
      have HIt := hide (ref11_item_any (some ⟨g, off, none⟩) its iC k false false false true wr (.inr ⟨g, off, rfl, hg, hc⟩) hlt hli (by simp [IsKind]))
      have hok := HO.out _ (List.getElem_mem hlt)
      have HV := hide (fun W (hb : Below wr.heap.size wr W) => ref8_Validate_any E its[k].expr ec W (hE.below hb) hok.2 hok.1)
      have HT := hide (itemF_at hlt false false false true (fun x => validE x.expr))
      have HF := hide (fun x (e : itemF its false false false true (fun x => validE x.expr) k = x) (hx : x ≠ 0) => (HE.out.trans (firstE_hit HZ.out (by rw [e]; exact hx) hlt)).trans e)
      have HN := hide (fun (e : itemF its false false false true (fun x => validE x.expr) k = 0) => step_lt HZ.out e)
      have HC4 := hide (fun W (hb : Below wr.heap.size wr W) => (hb.cell (p := ⟨g, off + k * 5 + 4, none⟩) hg).trans c4)
      clear hc hE hok
      generalize its[k].expr.length = le at *
      generalize validE its[k].expr = v at *
      generalize itemE its k false false false true = u at *
      generalize its[k] = x at *
      by_cases hu : u = 0
      rotate_left
      · have hub : (u != 0) = true := by simpa using hu
        have HR := hide (HF.out u (by rw [HT.out, if_neg hu]) hu)
        clear HT HF HN hu
        go_wp2_with (go_at_call 103; refine (HIt.out).mono ?_; rintro e w1 ⟨rfl, hb1⟩)
        go_ret
        exact ⟨ret_int HR.out.symm, bel2 hb1 hbw⟩
      subst hu
      have HT2 := hide (HT.out.trans (if_pos rfl))
      by_cases hv : v = 0
      · subst hv
        have HR := hide (HN.out HT2.out)
        clear HT HF HN HT2
        go_wp2_with (first
          | (go_at_call 103; refine (HIt.out).mono ?_; rintro e w1 ⟨rfl, hb1⟩; have hcur := below_go hbel (by simp) hb1; obtain ⟨n0, n1, n2, n3, n4, n5, hlw1⟩ := box6 hcur; have d4 := HC4.out _ hb1)
          | (go_at_call 61; refine (HV.out _ hb1).mono ?_; rintro e w2 ⟨rfl, hb2⟩))
        exact ⟨⟨k + 1, by omega, by go_num, HR, below_go hcur (by simp) hb2⟩, by simp [intOf]; omega⟩
      · have hvb : (v != 0) = true := by simpa using hv
        have HR := hide (HF.out v HT2.out hv)
        clear HT HF HN HT2 hv
        go_wp2_with (first
          | (go_at_call 103; refine (HIt.out).mono ?_; rintro e w1 ⟨rfl, hb1⟩; have hcur := below_go hbel (by simp) hb1; obtain ⟨n0, n1, n2, n3, n4, n5, hlw1⟩ := box6 hcur; have d4 := HC4.out _ hb1)
          | (go_at_call 61; refine (HV.out _ hb1).mono ?_; rintro e w2 ⟨rfl, hb2⟩))
        go_ret
        exact ⟨ret_int HR.out.symm, bel2 hb2 (bel2 hb1 hbw)⟩
    · obtain rfl : k = its.length := by omega
      have HR := hide (HE.out.trans (firstE_none HZ.out))
      go_wp2
      go_ret
      exact ⟨ret_int HR.out.symm, hbw⟩
end Go.Proofs.YtmbeeefkpgfgmaaGreatDoor
namespace Go.Proofs.YtmbeeefkpgfgmaaGreatDoor
open Go.RowKit
set_option maxRecDepth 100000 in
set_option maxHeartbeats 4000000 in
theorem ref11_join_any (s : Stp) (a : Adr) (w : World) (hA : s.At w a) (ho : s.ok) :
    Calls Tryz.prog 64 #[s.agg a] w fun e w' => e = .returned (.int .i64 (joinS s)) ∧ Below w.heap.size w w' := by
  have HI := hide hA.items
  have hli := ho.items
  have HE := hide (show joinS s = thenE (readE s.src) (thenE (listS s.names 1) (thenE (listS s.others 1) (thenE (if s.names.length = s.others.length then 0 else 8) (itemsS s.items 0 false true false false fun x => nameE x.col)))) from rfl)
  have HR0 := hide (fun W => ref11_source_any s.src W ho.src)
  have HR1 := hide (fun W (hb : Below w.heap.size w W) => ref11_list_any a.nA s.names a.nC 1 W (hA.names.below hb) ho.names (Nat.le_refl _) hA.cn)
  have HR2 := hide (fun W (hb : Below w.heap.size w W) => ref11_list_any a.oA s.others a.oC 1 W (hA.others.below hb) ho.others (Nat.le_refl _) hA.co)
  clear hA ho
  obtain ⟨op, src, names, others, its, cond⟩ := s
  obtain ⟨nA, nC, oA, oC, iA, iC, cA, cC⟩ := a
  simp only at HI HE HR0 HR1 HR2 hli ⊢
  show Calls Tryz.prog 64 #[.agg #[.int .i64 op, str src, .slice nA names.length nC, .slice oA others.length oC, .slice iA its.length iC, .slice cA cond.length cC]] w _
  generalize readE src = e0 at *
  generalize listS names 1 = e1 at *
  generalize listS others 1 = e2 at *
  generalize names.length = ln at *
  generalize others.length = lo at *
  generalize cond.length = lc
  generalize joinS _ = r at *
  have hbox : Below (w.heap.size + 1) (w.alloc (.cells #[.int .i64 op, str src, .slice nA ln nC, .slice oA lo oC, .slice iA its.length iC, .slice cA lc cC] 27)) (w.alloc (.cells #[.int .i64 op, str src, .slice nA ln nC, .slice oA lo oC, .slice iA its.length iC, .slice cA lc cC] 27)) := Below.refl _ _
  have SRC : ∀ W, Below (w.heap.size + 1) (w.alloc (.cells #[.int .i64 op, str src, .slice nA ln nC, .slice oA lo oC, .slice iA its.length iC, .slice cA lc cC] 27)) W → Calls Tryz.prog 65 #[str src] W fun e w' => e = .returned (.int .i64 e0) ∧ Below (w.heap.size + 1) (w.alloc (.cells #[.int .i64 op, str src, .slice nA ln nC, .slice oA lo oC, .slice iA its.length iC, .slice cA lc cC] 27)) w' := fun W hW => (HR0.out W).mono fun e w' ⟨h1, h2⟩ => ⟨h1, below_go hW (by simp) h2⟩
  have L1 : ∀ W, Below (w.heap.size + 1) (w.alloc (.cells #[.int .i64 op, str src, .slice nA ln nC, .slice oA lo oC, .slice iA its.length iC, .slice cA lc cC] 27)) W → Calls Tryz.prog 63 #[.slice nA ln nC, .int .i64 1] W fun e w' => e = .returned (.int .i64 e1) ∧ Below (w.heap.size + 1) (w.alloc (.cells #[.int .i64 op, str src, .slice nA ln nC, .slice oA lo oC, .slice iA its.length iC, .slice cA lc cC] 27)) w' := fun W hW => (HR1.out W (box_below hW)).mono fun e w' ⟨h1, h2⟩ => ⟨h1, below_go hW (by simp) h2⟩
  have L2 : ∀ W, Below (w.heap.size + 1) (w.alloc (.cells #[.int .i64 op, str src, .slice nA ln nC, .slice oA lo oC, .slice iA its.length iC, .slice cA lc cC] 27)) W → Calls Tryz.prog 63 #[.slice oA lo oC, .int .i64 1] W fun e w' => e = .returned (.int .i64 e2) ∧ Below (w.heap.size + 1) (w.alloc (.cells #[.int .i64 op, str src, .slice nA ln nC, .slice oA lo oC, .slice iA its.length iC, .slice cA lc cC] 27)) w' := fun W hW => (HR2.out W (box_below hW)).mono fun e w' ⟨h1, h2⟩ => ⟨h1, below_go hW (by simp) h2⟩
  clear HR0 HR1 HR2
  have SRC := hide SRC
  have L1 := hide L1
  have L2 := hide L2
  by_cases h0 : e0 = 0
  rotate_left
  · have hb : (e0 != 0) = true := by simpa using h0
    have HX := hide (show r = e0 from by rw [HE.out]; unfold thenE; rw [if_neg h0])
    clear HE h0
    go_enter Tryz.func64, Tryz.ntmps64
    go_wp2_with (go_at_call 65; refine (SRC.out _ hbox).mono ?_; rintro e w1 ⟨rfl, hb1⟩)
    go_ret
    exact ⟨ret_int HX.out.symm, box_below hb1⟩
  subst h0
  by_cases h1 : e1 = 0
  rotate_left
  · have hb : (e1 != 0) = true := by simpa using h1
    have HX := hide (show r = e1 from by rw [HE.out]; unfold thenE; rw [if_pos rfl, if_neg h1])
    clear HE h1
    go_enter Tryz.func64, Tryz.ntmps64
    go_wp2_with (first
      | (go_at_call 65; refine (SRC.out _ hbox).mono ?_; rintro e w1 ⟨rfl, hb1⟩; obtain ⟨m0, m1, m2, m3, m4, m5, hlw⟩ := box6 hb1)
      | (go_at_call 63; refine (L1.out _ hb1).mono ?_; rintro e w2 ⟨rfl, hb2⟩))
    go_ret
    exact ⟨ret_int HX.out.symm, box_below hb2⟩
  subst h1
  by_cases h2 : e2 = 0
  rotate_left
  · have hb : (e2 != 0) = true := by simpa using h2
    have HX := hide (show r = e2 from by rw [HE.out]; unfold thenE; rw [if_pos rfl, if_pos rfl, if_neg h2])
    clear HE h2
    go_enter Tryz.func64, Tryz.ntmps64
    go_wp2_with (first
      | (go_at_call 65; refine (SRC.out _ hbox).mono ?_; rintro e w1 ⟨rfl, hb1⟩; obtain ⟨m0, m1, m2, m3, m4, m5, hlw⟩ := box6 hb1)
      | (go_at_call 63; refine (L1.out _ hb1).mono ?_; rintro e w2 ⟨rfl, hb2⟩; obtain ⟨q0, q1, q2, q3, q4, q5, hlw2⟩ := box6 hb2; clear hb1)
      | (go_at_call 63; refine (L2.out _ hb2).mono ?_; rintro e w3 ⟨rfl, hb3⟩))
    go_ret
    exact ⟨ret_int HX.out.symm, box_below hb3⟩
  subst h2
  have HE3 := hide (show r = thenE (if ln = lo then 0 else 8) (itemsS its 0 false true false false fun x => nameE x.col) from by rw [HE.out]; unfold thenE; simp)
  clear HE
  by_cases h3 : ln = lo
  rotate_left
  · have hb : ((ln : Int) != (lo : Int)) = true := by simp; omega
    have HX := hide (show r = 8 from by rw [HE3.out, if_neg h3]; rfl)
    clear HE3 h3
    go_enter Tryz.func64, Tryz.ntmps64
    go_wp2_with (first
      | (go_at_call 65; refine (SRC.out _ hbox).mono ?_; rintro e w1 ⟨rfl, hb1⟩; obtain ⟨m0, m1, m2, m3, m4, m5, hlw⟩ := box6 hb1)
      | (go_at_call 63; refine (L1.out _ hb1).mono ?_; rintro e w2 ⟨rfl, hb2⟩; obtain ⟨q0, q1, q2, q3, q4, q5, hlw2⟩ := box6 hb2; clear hb1)
      | (go_at_call 63; refine (L2.out _ hb2).mono ?_; rintro e w3 ⟨rfl, hb3⟩; obtain ⟨o0, o1, o2, o3, o4, o5, hlw3⟩ := box6 hb3))
    go_ret
    exact ⟨ret_int HX.out.symm, box_below hb3⟩
  subst h3
  have hbn : ((ln : Int) != (ln : Int)) = false := by simp
  have HE4 := hide (show r = itemsS its 0 false true false false fun x => nameE x.col from by rw [HE3.out, if_pos rfl]; rfl)
  clear HE3
  by_cases h4 : 12 < its.length
  · have HX := hide (show r = 2 from by rw [HE4.out]; unfold itemsS; rw [if_pos (.inr h4)])
    clear HE4
    go_enter Tryz.func64, Tryz.ntmps64
    go_wp2_with (first
      | (go_at_call 65; refine (SRC.out _ hbox).mono ?_; rintro e w1 ⟨rfl, hb1⟩; obtain ⟨m0, m1, m2, m3, m4, m5, hlw⟩ := box6 hb1)
      | (go_at_call 63; refine (L1.out _ hb1).mono ?_; rintro e w2 ⟨rfl, hb2⟩; obtain ⟨q0, q1, q2, q3, q4, q5, hlw2⟩ := box6 hb2; clear hb1)
      | (go_at_call 63; refine (L2.out _ hb2).mono ?_; rintro e w3 ⟨rfl, hb3⟩; obtain ⟨o0, o1, o2, o3, o4, o5, hlw3⟩ := box6 hb3))
    go_ret
    exact ⟨ret_int HX.out.symm, box_below hb3⟩
  have HE5 := hide (HE4.out.trans (itemsS_in (by omega)))
  clear HE4
  go_enter Tryz.func64, Tryz.ntmps64
  go_wp2_with (first
    | (go_at_call 65; refine (SRC.out _ hbox).mono ?_; rintro e w1 ⟨rfl, hb1⟩; obtain ⟨m0, m1, m2, m3, m4, m5, hlw⟩ := box6 hb1)
    | (go_at_call 63; refine (L1.out _ hb1).mono ?_; rintro e w2 ⟨rfl, hb2⟩; obtain ⟨q0, q1, q2, q3, q4, q5, hlw2⟩ := box6 hb2; clear hb1)
    | (go_at_call 63; refine (L2.out _ hb2).mono ?_; rintro e w3 ⟨rfl, hb3⟩; obtain ⟨o0, o1, o2, o3, o4, o5, hlw3⟩ := box6 hb3))
  clear SRC L1 L2 q0 q1 q2 q3 q4 q5 o0 o1 o2 o3 o4 o5 m0 m1 m2 m3 m4 m5 hb2
  go_loopw [6] (fun i wr => ∃ k : Nat, k ≤ its.length ∧ i = .int .i64 k ∧ Hid (∀ j, j < k → itemF its false true false false (fun x => nameE x.col) j = 0) ∧ Below (w.heap.size + 1) (w.alloc (.cells #[.int .i64 op, str src, .slice nA ln nC, .slice oA ln oC, .slice iA its.length iC, .slice cA lc cC] 27)) wr) (fun i _ => its.length - (intOf i).toNat)
  case atStart => exact ⟨0, by omega, rfl, fun j hj => absurd hj (Nat.not_lt_zero _), hb3⟩
  case round =>
    obtain ⟨k, hk, rfl, HZ, hbel⟩ := hrel
    have hbw := box_below hbel
    obtain ⟨m0, m1, m2, m3, m4, m5, hlw⟩ := box6 hbel
    by_cases hlt : k < its.length
    · rcases HI.out.below hbw with e | ⟨g, off, rfl, hg, hc⟩
      · exact absurd hlt (by rw [e]; simp)
      obtain ⟨c0, c1, c2, c3, E, ec, c4, hE⟩ := hc k hlt
      have HIt := hide (ref11_item_any (some ⟨g, off, none⟩) its iC k false true false false wr (.inr ⟨g, off, rfl, hg, hc⟩) hlt hli (by simp [IsKind]))
      have HV := hide (fun W => nmB_str its[k].col W)
      have HT := hide (itemF_at hlt false true false false (fun x => nameE x.col))
      have HF := hide (fun x (e : itemF its false true false false (fun x => nameE x.col) k = x) (hx : x ≠ 0) => (HE5.out.trans (firstE_hit HZ.out (by rw [e]; exact hx) hlt)).trans e)
      have HN := hide (fun (e : itemF its false true false false (fun x => nameE x.col) k = 0) => step_lt HZ.out e)
      have HC4 := hide (fun W (hb : Below wr.heap.size wr W) => (hb.cell (p := ⟨g, off + k * 5 + 2, none⟩) hg).trans c2)
      clear hc hE
      generalize itemE its k false true false false = u at *
      generalize its[k] = x at *
      by_cases hu : u = 0
      rotate_left
      · have hub : (u != 0) = true := by simpa using hu
        have HR := hide (HF.out u (by rw [HT.out, if_neg hu]) hu)
        clear HT HF HN hu
        go_wp2_with (go_at_call 103; refine (HIt.out).mono ?_; rintro e w4 ⟨rfl, hb4⟩)
        go_ret
        exact ⟨ret_int HR.out.symm, bel2 hb4 hbw⟩
      subst hu
      have HT2 := hide (HT.out.trans (if_pos rfl))
      unfold nameE at HT2
      cases hv : nmB x.col
      · rw [hv] at HV HT2
        have HR := hide (HF.out 4 (HT2.out.trans (if_neg (by decide))) (by decide))
        clear HT HF HN HT2 hv
        go_wp2_with (first
          | (go_at_call 103; refine (HIt.out).mono ?_; rintro e w4 ⟨rfl, hb4⟩; have hcur := below_go hbel (by simp) hb4; obtain ⟨n0, n1, n2, n3, n4, n5, hlw1⟩ := box6 hcur; have d4 := HC4.out _ hb4)
          | (go_at_call 104; refine (HV.out _).mono ?_; rintro e w5 ⟨rfl, hb5⟩))
        go_ret
        exact ⟨ret_int HR.out.symm, bel2 hb5 (bel2 hb4 hbw)⟩
      · rw [hv] at HV HT2
        have HR := hide (HN.out (HT2.out.trans (if_pos rfl)))
        clear HT HF HN HT2 hv
        go_wp2_with (first
          | (go_at_call 103; refine (HIt.out).mono ?_; rintro e w4 ⟨rfl, hb4⟩; have hcur := below_go hbel (by simp) hb4; obtain ⟨n0, n1, n2, n3, n4, n5, hlw1⟩ := box6 hcur; have d4 := HC4.out _ hb4)
          | (go_at_call 104; refine (HV.out _).mono ?_; rintro e w5 ⟨rfl, hb5⟩))
        exact ⟨⟨k + 1, by omega, by go_num, HR, below_go hcur (by simp) hb5⟩, by simp [intOf]; omega⟩
    · obtain rfl : k = its.length := by omega
      have HR := hide (HE5.out.trans (firstE_none HZ.out))
      go_wp2
      go_ret
      exact ⟨ret_int HR.out.symm, hbw⟩
end Go.Proofs.YtmbeeefkpgfgmaaGreatDoor
