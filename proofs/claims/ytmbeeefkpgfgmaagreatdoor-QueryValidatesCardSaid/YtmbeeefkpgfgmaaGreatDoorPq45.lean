/- Contracts: query.Reads, ref11.Reads; ref5.Strings of any texts. Contracts: law11.lightStep, law11.light. -/
import Derived.Test.YtmbeeefkpgfgmaaGreatDoorPq33
import Derived.Test.YtmbeeefkpgfgmaaGreatDoorPq20
import Derived.Deep.QuietTactic
import Derived.BigQuiet
import Derived.Test.YtmbeeefkpgfgmaaGreatDoorPq07
set_option linter.unusedVariables false
set_option linter.unusedSimpArgs false
namespace Go.Proofs.YtmbeeefkpgfgmaaGreatDoor
open Go.RowKit
theorem Tryz.info_text : (Tryz.prog.info? 9).map (fun i => (i.zero, i.size, i.bytes)) = some (some (.string ⟨#[]⟩), 1, 16) := by kernel_rfl
def readB (op : Int) : Bool := op == 0 || (decide (4 ≤ op) && decide (op ≤ 9))
def rdStep (out : List Bytes) (s : Stp) : List Bytes := if readB s.op = true ∧ s.src ≠ [] ∧ s.src ∉ out then out ++ [s.src] else out
def readsS (ss : List Stp) : List Bytes := ss.foldl rdStep []
theorem reads_at {ss : List Stp} {k : Nat} (h : k < ss.length) : readsS (ss.take (k + 1)) = rdStep (readsS (ss.take k)) ss[k] := by
  unfold readsS
  rw [List.take_succ_eq_append_getElem h, List.foldl_append]
  rfl
theorem rdStep_len (l : List Bytes) (s : Stp) : (rdStep l s).length ≤ l.length + 1 := by
  unfold rdStep
  split
  · simp
  · omega
theorem reads_len {ss : List Stp} : ∀ k, k ≤ ss.length → (readsS (ss.take k)).length ≤ k
  | 0, _ => by simp [readsS]
  | k + 1, h => by
    rw [reads_at (by omega)]
    have := reads_len (ss := ss) k (by omega)
    have := rdStep_len (readsS (ss.take k)) (ss[k]'(by omega))
    omega
theorem rdStep_once {l : List Bytes} (s : Stp) (h : l.Nodup) : (rdStep l s).Nodup := by
  unfold rdStep
  split
  · rename_i hc
    rw [List.nodup_append]
    refine ⟨h, by simp, fun a ha b hb e => ?_⟩
    simp at hb
    subst e
    subst hb
    exact hc.2.2 ha
  · exact h
theorem fold_once : ∀ (ss : List Stp) (l : List Bytes), l.Nodup → (ss.foldl rdStep l).Nodup
  | [], _, h => h
  | s :: ss, l, h => fold_once ss _ (rdStep_once s h)
theorem reads_once (ss : List Stp) : (readsS ss).Nodup := fold_once ss [] (by simp)
theorem fold_pre : ∀ (ss : List Stp) (l : List Bytes), l <+: ss.foldl rdStep l
  | [], l => List.prefix_refl l
  | s :: ss, l => by
    have h : l <+: rdStep l s := by
      unfold rdStep
      split
      · exact List.prefix_append _ _
      · exact List.prefix_refl l
    exact h.trans (fold_pre ss _)
theorem reads_head {s : Stp} {ss : List Stp} (ho : s.op = 0) (hs : s.src ≠ []) : ∃ l, readsS (s :: ss) = s.src :: l := by
  have h := fold_pre ss [s.src]
  have e : readsS (s :: ss) = ss.foldl rdStep [s.src] := by
    unfold readsS
    rw [List.foldl_cons]
    congr 1
    unfold rdStep
    rw [if_pos ⟨by rw [ho]; rfl, hs, by simp⟩]
    rfl
  rw [e]
  obtain ⟨t, ht⟩ := h
  exact ⟨t, by rw [← ht]; rfl⟩
theorem StrsAt_of_own {w : World} {base e c : Nat} {A : Option Addr} {l : List Bytes} (h : w.ownsRow base e 1 (.slice A l.length c) l.length (l.map str)) : StrsAt w A l := by
  rcases h.2 with ⟨_, hn⟩ | ⟨g, cap, cur, hv, hg, hh, hnc, hcap, hsz, htk⟩
  · exact .inl (List.eq_nil_of_length_eq_zero hn)
  · injection hv with h1 h2 h3
    subst h1
    refine .inr ⟨g, 0, rfl, lt_of_heap hh, fun j hj => ?_⟩
    have hc : w.cell? ⟨g, j, none⟩ = (l.map str)[j]? := World.ownsRow.cellAt h j (by omega)
    rw [Nat.zero_add, hc]
    simp [hj]
def OwnStrs (w w' : World) (l : List Bytes) (e : Ending) : Prop :=
  ∃ (A : Option Addr) (c : Nat), e = .returned (.slice A l.length c) ∧ w'.ownsRow w.heap.size 9 1 (.slice A l.length c) l.length (l.map str)
set_option maxRecDepth 100000 in
set_option maxHeartbeats 4000000 in
theorem ref11_Reads_any (A : Option Addr) (ss : List Stp) (c : Nat) (w : World) (h : StpsAt w A ss) (hl : ss.length ≤ 1000000) :
    Calls Tryz.prog 22 #[.slice A ss.length c] w fun e w' => OwnStrs w w' (readsS ss) e ∧ Below w.heap.size w w' := by
  have HA := hide h
  clear h
  obtain ⟨i0, hi, hz0, hz1, hz2⟩ := info_parts Tryz.info_text
  go_enter Tryz.func22, Tryz.ntmps22
  go_wp2
  go_loopw [3, 4] (fun s i wr => ∃ (k : Nat) (B : Option Addr) (d : Nat), s = .slice B (readsS (ss.take k)).length d ∧ i = .int .i64 k ∧ k ≤ ss.length ∧
      wr.ownsRow w.heap.size 9 1 (.slice B (readsS (ss.take k)).length d) (readsS (ss.take k)).length ((readsS (ss.take k)).map str) ∧ Below w.heap.size w wr) (fun _ i _ => ss.length - (intOf i).toNat)
  case atStart => exact ⟨0, none, 0, rfl, rfl, by omega, own_nil _ _ _ _, Below.refl _ _⟩
  case round =>
    obtain ⟨k, B, d, rfl, rfl, hk, hown, hbel⟩ := hrel
    have hsz := hbel.size
    have hcl := reads_len (ss := ss) k hk
    by_cases hlt : k < ss.length
    · rcases HA.out.below hbel with e | ⟨g, off, rfl, hg, hc⟩
      · exact absurd hlt (by rw [e]; simp)
      obtain ⟨a, ha, c0, c1, c2, c3, c4, c5⟩ := hc k hlt
      have HT := hide (reads_at (ss := ss) hlt)
      have HO := hide hown
      have HH := hide (fun (x : Bytes) W (hb : Below wr.heap.size wr W) => has_str B (readsS (ss.take k)) d x W ((StrsAt_of_own hown).below hb) (by omega))
      clear hc hown ha
      generalize hF : readsS (ss.take k) = fl at *
      clear hF
      generalize ss[k] = x at *
      obtain ⟨op, src, names, others, its, cond⟩ := x
      obtain ⟨nA, nC, oA, oC, iA, iC, cA, cC⟩ := a
      simp only at c0 c1 c2 c3 c4 c5
      unfold rdStep at HT
      simp only at HT
      by_cases hr : readB op = true
      · by_cases hs : src = []
        · subst hs
          have HN := hide (HT.out.trans (if_neg (fun h => h.2.1 rfl)))
          have hr2 : op = 0 ∨ (4 ≤ op ∧ op ≤ 9) := by unfold readB at hr; simp at hr; omega
          clear HT hr
          rcases hr2 with rfl | ⟨q1, q2⟩
          all_goals
            go_wp2
            all_goals first | (exfalso; omega) | skip
            all_goals exact ⟨⟨k + 1, B, d, by rw [HN.out], by go_num, by omega, by rw [HN.out]; exact own_below HO.out zX, zX⟩, by simp [intOf]; omega⟩
        · by_cases hm : src ∈ fl
          · have HN := hide (HT.out.trans (if_neg (fun h => h.2.2 hm)))
            have hr2 : op = 0 ∨ (4 ≤ op ∧ op ≤ 9) := by unfold readB at hr; simp at hr; omega
            have hmb : decide (src ∈ fl) = true := by simpa using hm
            have HH2 := hide (fun W hb => HH.out src W hb)
            rw [hmb] at HH2
            have hs1 : src.isEmpty = false := by cases src; exact absurd rfl hs; rfl
            have hs2 : (src == []) = false := beq_eq_false_iff_ne.2 hs
            clear HT hr hm hmb HH
            rcases hr2 with rfl | ⟨q1, q2⟩
            all_goals
              go_wp2_with (go_at_call 20; refine (HH2.out _ zX).mono ?_; rintro e w' ⟨rfl, rfl⟩)
              all_goals first | (exfalso; omega) | skip
              all_goals exact ⟨⟨k + 1, B, d, by rw [HN.out], by go_num, by omega, by rw [HN.out]; exact own_below HO.out zX, zX⟩, by simp [intOf]; omega⟩
          · have HN := hide (HT.out.trans (if_pos ⟨hr, hs, hm⟩))
            have hr2 : op = 0 ∨ (4 ≤ op ∧ op ≤ 9) := by unfold readB at hr; simp at hr; omega
            have hmb : decide (src ∈ fl) = false := by simpa using hm
            have HH2 := hide (fun W hb => HH.out src W hb)
            rw [hmb] at HH2
            have hs1 : src.isEmpty = false := by cases src; exact absurd rfl hs; rfl
            have hs2 : (src == []) = false := beq_eq_false_iff_ne.2 hs
            clear HT hr hm hmb HH
            rcases hr2 with rfl | ⟨q1, q2⟩
            all_goals
              go_wp2_with (first
                | (go_at_call 20; refine (HH2.out _ zX).mono ?_; rintro e w' ⟨rfl, rfl⟩)
                | (at_builtin; refine wpList_append_own _ rfl _ _ 23 rfl w.heap.size 9 i0 _ 1 16 Tryz.underlying23 hi hz0 hz1 hz2 rfl (by decide) _ _ _ rfl (own_below HO.out zX) ⟨wr.heap.size + 1, 0, none⟩ 1 1 [str src] rfl rfl (by exact cells_1 (by first | (have := heap_alloc_new (wr.alloc (.cells #[.int .i64 op, str src, .slice nA names.length nC, .slice oA others.length oC, .slice iA its.length iC, .slice cA cond.length cC] 27)) (.cells #[str src] 9); simpa using this) | (have := heap_alloc_new (wr.alloc (.cells #[.int .i64 0, str src, .slice nA names.length nC, .slice oA others.length oC, .slice iA its.length iC, .slice cA cond.length cC] 27)) (.cells #[str src] 9); simpa using this))) (by simp [Value.oneCell']) (by unfold maxLen; omega) (by omega) (by simp; omega) ?_; intro v' w3 hown3 hgrow _))
              all_goals first | (exfalso; omega) | skip
              all_goals
                obtain ⟨A3, c3', rfl⟩ := own_form hown3
                have hb3 : Below w.heap.size w w3 := (show Below w.heap.size w _ from zX).grown hgrow (by simp; omega) (fun k hk => (HO.out.lt k hk).1)
                have e1 : (fl ++ [src]).map str = fl.map str ++ [str src] := by simp
                have e2 : (fl ++ [src]).length = fl.length + 1 := by simp
                have HFin := hide (show w3.ownsRow w.heap.size 9 1 (.slice A3 (fl ++ [src]).length c3') (fl ++ [src]).length ((fl ++ [src]).map str) from by rw [e1, e2]; exact hown3)
                clear hown3 hgrow e1
                go_wp2
                exact ⟨⟨k + 1, A3, c3', by rw [HN.out, e2], by go_num, by omega, by rw [HN.out]; exact HFin.out, hb3⟩, by simp [intOf]; omega⟩
      · have HN := hide (HT.out.trans (if_neg (fun h => hr h.1)))
        have hr2 : op ≠ 0 ∧ (op < 4 ∨ 9 < op) := by unfold readB at hr; simp at hr; omega
        obtain ⟨q0, q1⟩ := hr2
        clear HT hr
        rcases q1 with q1 | q1
        all_goals
          go_wp2
          all_goals first | (exfalso; omega) | (exfalso; simp_all; done) | skip
          all_goals exact ⟨⟨k + 1, B, d, by rw [HN.out], by go_num, by omega, by rw [HN.out]; exact own_below HO.out zX, zX⟩, by simp [intOf]; omega⟩
    · obtain rfl : k = ss.length := by omega
      rw [List.take_length] at hown ⊢
      have HO := hide hown
      clear hown
      go_wp2
      go_ret
      exact ⟨⟨B, d, rfl, HO.out⟩, hbel⟩
theorem used_read : ∀ m : Nat, m ≤ 12 → usedL.getD (m * 5) false = readB m
  | 0, _ => rfl
  | 1, _ => rfl
  | 2, _ => rfl
  | 3, _ => rfl
  | 4, _ => rfl
  | 5, _ => rfl
  | 6, _ => rfl
  | 7, _ => rfl
  | 8, _ => rfl
  | 9, _ => rfl
  | 10, _ => rfl
  | 11, _ => rfl
  | 12, _ => rfl
  | n + 13, h => absurd h (by omega)
set_option maxRecDepth 100000 in
set_option maxHeartbeats 4000000 in
theorem query_Reads_any (A : Option Addr) (ss : List Stp) (c : Nat) (w : World) (hU : UsedVar w) (h : StpsAt w A ss) (hl : ss.length ≤ 1000000) :
    Calls Tryz.prog 19 #[.slice A ss.length c] w fun e w' => OwnStrs w w' (readsS ss) e ∧ Below w.heap.size w w' := by
  have HA := hide h
  have HU := hide hU
  clear h hU
  obtain ⟨i0, hi, hz0, hz1, hz2⟩ := info_parts Tryz.info_text
  go_enter Tryz.func19, Tryz.ntmps19
  go_wp2
  go_loopw [3, 8] (fun s i wr => ∃ (k : Nat) (B : Option Addr) (d : Nat), s = .slice B (readsS (ss.take k)).length d ∧ i = .int .i64 k ∧ k ≤ ss.length ∧
      wr.ownsRow w.heap.size 9 1 (.slice B (readsS (ss.take k)).length d) (readsS (ss.take k)).length ((readsS (ss.take k)).map str) ∧ Below w.heap.size w wr) (fun _ i _ => ss.length - (intOf i).toNat)
  case atStart => exact ⟨0, none, 0, rfl, rfl, by omega, own_nil _ _ _ _, Below.refl _ _⟩
  case round =>
    obtain ⟨k, B, d, rfl, rfl, hk, hown, hbel⟩ := hrel
    have hsz := hbel.size
    have hcl := reads_len (ss := ss) k hk
    by_cases hlt : k < ss.length
    · rcases HA.out.below hbel with e | ⟨g, off, rfl, hg, hc⟩
      · exact absurd hlt (by rw [e]; simp)
      obtain ⟨a, ha, c0, c1, c2, c3, c4, c5⟩ := hc k hlt
      have HT := hide (reads_at (ss := ss) hlt)
      have HO := hide hown
      have HH := hide (fun (x : Bytes) W (hb : Below wr.heap.size wr W) => contains_str B (readsS (ss.take k)) d x W ((StrsAt_of_own hown).below hb) (by omega))
      have HU2 := hide (HU.out.below hbel)
      clear hc hown ha
      generalize hF : readsS (ss.take k) = fl at *
      clear hF
      generalize ss[k] = x at *
      obtain ⟨op, src, names, others, its, cond⟩ := x
      obtain ⟨nA, nC, oA, oC, iA, iC, cA, cC⟩ := a
      simp only at c0 c1 c2 c3 c4 c5
      unfold rdStep at HT
      simp only at HT
      generalize names.length = l1 at *
      generalize others.length = l2 at *
      generalize its.length = l3 at *
      generalize cond.length = l4 at *
      by_cases hout : op < 0 ∨ 12 < op
      · have hr : readB op = false := by unfold readB; simp; omega
        have HN := hide (HT.out.trans (if_neg (fun h => by rw [hr] at h; exact absurd h.1 (by decide))))
        clear HT hr
        rcases hout with q1 | q1
        all_goals
          go_wp2
          all_goals first | (exfalso; omega) | skip
          exact ⟨⟨k + 1, B, d, by rw [HN.out], by go_num, by omega, by rw [HN.out]; exact own_below HO.out zX, zX⟩, by simp [intOf]; omega⟩
      obtain ⟨m, rfl⟩ : ∃ m : Nat, op = (m : Int) := ⟨op.toNat, by omega⟩
      have hm12 : m ≤ 12 := by omega
      have hmi : (m : Int) < 13 := by omega
      have hmn : m < 13 := by omega
      have u0 : wr.cell? ⟨0, m * 5, none⟩ = some (.bool (readB m)) := by rw [← used_read m hm12]; exact HU2.out.2 (m * 5) (by omega)
      have hgU := HU2.out.1
      have hn0 : ¬ (m : Int) < 0 := by omega
      have hn12 : ¬ (12 : Int) < (m : Int) := by omega
      clear hout
      generalize readB m = rb at *
      cases rb
      · have HN := hide (HT.out.trans (if_neg (fun h => absurd h.1 (by decide))))
        clear HT
        go_wp2
        all_goals first | (exfalso; omega) | skip
        exact ⟨⟨k + 1, B, d, by rw [HN.out], by go_num, by omega, by rw [HN.out]; exact own_below HO.out zX, zX⟩, by simp [intOf]; omega⟩
      by_cases hs : src = []
      · subst hs
        have HN := hide (HT.out.trans (if_neg (fun h => h.2.1 rfl)))
        clear HT
        go_wp2
        all_goals first | (exfalso; omega) | skip
        exact ⟨⟨k + 1, B, d, by rw [HN.out], by go_num, by omega, by rw [HN.out]; exact own_below HO.out zX, zX⟩, by simp [intOf]; omega⟩
      have hs1 : src.isEmpty = false := by cases src; exact absurd rfl hs; rfl
      have hs2 : (src == []) = false := beq_eq_false_iff_ne.2 hs
      by_cases hm : src ∈ fl
      · have HN := hide (HT.out.trans (if_neg (fun h => h.2.2 hm)))
        have hmb : decide (src ∈ fl) = true := by simpa using hm
        have HH2 := hide (fun W hb => HH.out src W hb)
        rw [hmb] at HH2
        clear HT hm hmb HH
        go_wp2_with (go_at_call 68; refine (HH2.out _ zX).mono ?_; rintro e w' ⟨rfl, rfl⟩)
        all_goals first | (exfalso; omega) | skip
        exact ⟨⟨k + 1, B, d, by rw [HN.out], by go_num, by omega, by rw [HN.out]; exact own_below HO.out zX, zX⟩, by simp [intOf]; omega⟩
      · have HN := hide (HT.out.trans (if_pos ⟨rfl, hs, hm⟩))
        have hmb : decide (src ∈ fl) = false := by simpa using hm
        have HH2 := hide (fun W hb => HH.out src W hb)
        rw [hmb] at HH2
        clear HT hm hmb HH
        go_wp2_with (first
          | (go_at_call 68; refine (HH2.out _ zX).mono ?_; rintro e w' ⟨rfl, rfl⟩)
          | (at_builtin; refine wpList_append_own _ rfl _ _ 23 rfl w.heap.size 9 i0 _ 1 16 Tryz.underlying23 hi hz0 hz1 hz2 rfl (by decide) _ _ _ rfl (own_below HO.out zX) ⟨wr.heap.size + 1, 0, none⟩ 1 1 [str src] rfl rfl (by exact cells_1 (by have := heap_alloc_new (wr.alloc (.cells #[.int .i64 (m : Int), str src, .slice nA l1 nC, .slice oA l2 oC, .slice iA l3 iC, .slice cA l4 cC] 27)) (.cells #[str src] 9); simpa using this)) (by simp [Value.oneCell']) (by unfold maxLen; omega) (by omega) (by simp; omega) ?_; intro v' w3 hown3 hgrow _))
        all_goals first | (exfalso; omega) | skip
        obtain ⟨A3, c3', rfl⟩ := own_form hown3
        have hb3 : Below w.heap.size w w3 := (show Below w.heap.size w _ from zX).grown hgrow (by simp; omega) (fun k hk => (HO.out.lt k hk).1)
        have e1 : (fl ++ [src]).map str = fl.map str ++ [str src] := by simp
        have e2 : (fl ++ [src]).length = fl.length + 1 := by simp
        have HFin := hide (show w3.ownsRow w.heap.size 9 1 (.slice A3 (fl ++ [src]).length c3') (fl ++ [src]).length ((fl ++ [src]).map str) from by rw [e1, e2]; exact hown3)
        clear hown3 hgrow e1
        go_wp2
        exact ⟨⟨k + 1, A3, c3', by rw [HN.out, e2], by go_num, by omega, by rw [HN.out]; exact HFin.out, hb3⟩, by simp [intOf]; omega⟩
    · obtain rfl : k = ss.length := by omega
      rw [List.take_length] at hown ⊢
      have HO := hide hown
      clear hown
      go_wp2
      go_ret
      exact ⟨⟨B, d, rfl, HO.out⟩, hbel⟩
end Go.Proofs.YtmbeeefkpgfgmaaGreatDoor
namespace Go.Proofs.YtmbeeefkpgfgmaaGreatDoor
open Go.RowKit
def lightB (s : Stp) : Bool := decide (s.names.length ≤ 30) && decide (s.others.length ≤ 30) && decide (s.items.length ≤ 30) && decide (s.cond.length ≤ 100) && s.items.all (fun x => decide (x.expr.length ≤ 100))
def lightsB (ss : List Stp) : Bool := decide (ss.length ≤ 30) && ss.all lightB
set_option maxRecDepth 100000 in
set_option maxHeartbeats 2000000 in
theorem law11_lightStep_any (s : Stp) (a : Adr) (w : World) (hA : s.At w a) : Calls Tryz.prog 11 #[s.agg a] w fun e w' => e = .returned (.bool (lightB s)) ∧ Below w.heap.size w w' := by
  have HI := hide hA.items
  clear hA
  obtain ⟨op, src, names, others, its, cond⟩ := s
  obtain ⟨nA, nC, oA, oC, iA, iC, cA, cC⟩ := a
  simp only at HI
  show Calls Tryz.prog 11 #[.agg #[.int .i64 op, str src, .slice nA names.length nC, .slice oA others.length oC, .slice iA its.length iC, .slice cA cond.length cC]] w _
  have HX := hide (show lightB ⟨op, src, names, others, its, cond⟩ = (decide (names.length ≤ 30) && decide (others.length ≤ 30) && decide (its.length ≤ 30) && decide (cond.length ≤ 100) && its.all (fun x => decide (x.expr.length ≤ 100))) from rfl)
  generalize lightB _ = r at *
  generalize names.length = ln at *
  generalize others.length = lo at *
  generalize cond.length = lc at *
  by_cases h1 : ln ≤ 30 ∧ lo ≤ 30 ∧ its.length ≤ 30 ∧ lc ≤ 100
  rotate_left
  · have HR := hide (show r = false from by
      rw [HX.out]
      by_cases a1 : ln ≤ 30
      · by_cases a2 : lo ≤ 30
        · by_cases a3 : its.length ≤ 30
          · by_cases a4 : lc ≤ 100
            · exact absurd ⟨a1, a2, a3, a4⟩ h1
            · simp [a4]
          · simp [a3]
        · simp [a2]
      · simp [a1])
    generalize its.length = li at *
    clear HX HI
    go_enter Tryz.func11, Tryz.ntmps11
    go_wp2
    all_goals first | (go_ret; exact ⟨ret_bool HR.out.symm, zX⟩) | (exfalso; omega)
  obtain ⟨a1, a2, a3, a4⟩ := h1
  have HX2 := hide (show r = its.all (fun x => decide (x.expr.length ≤ 100)) from by rw [HX.out]; simp [a1, a2, a3, a4])
  clear HX
  have hbox : Below (w.heap.size + 1) (w.alloc (.cells #[.int .i64 op, str src, .slice nA ln nC, .slice oA lo oC, .slice iA its.length iC, .slice cA lc cC] 27)) (w.alloc (.cells #[.int .i64 op, str src, .slice nA ln nC, .slice oA lo oC, .slice iA its.length iC, .slice cA lc cC] 27)) := Below.refl _ _
  go_enter Tryz.func11, Tryz.ntmps11
  go_wp2
  all_goals first | (exfalso; omega) | skip
  go_loopw [3] (fun i wr => ∃ k : Nat, k ≤ its.length ∧ i = .int .i64 k ∧ Hid (∀ j (h : j < its.length), j < k → its[j].expr.length ≤ 100) ∧ Below (w.heap.size + 1) (w.alloc (.cells #[.int .i64 op, str src, .slice nA ln nC, .slice oA lo oC, .slice iA its.length iC, .slice cA lc cC] 27)) wr) (fun i _ => its.length - (intOf i).toNat)
  case atStart => exact ⟨0, by omega, rfl, fun j h hj => absurd hj (Nat.not_lt_zero _), hbox⟩
  case round =>
    obtain ⟨k, hk, rfl, HZ, hbel⟩ := hrel
    have hbw := box_below hbel
    obtain ⟨m0, m1, m2, m3, m4, m5, hlw⟩ := box6 hbel
    by_cases hlt : k < its.length
    · rcases HI.out.below hbw with e | ⟨g, off, rfl, hg, hc⟩
      · exact absurd hlt (by rw [e]; simp)
      obtain ⟨c0, c1, c2, c3, E, ec, c4, hE⟩ := hc k hlt
      have HY := hide (fun (h : its[k].expr.length ≤ 100) => show ∀ j (h : j < its.length), j < k + 1 → its[j].expr.length ≤ 100 from fun j h' hj => by
        by_cases e : j = k
        · subst e; exact h
        · exact HZ.out j h' (by omega))
      have HN := hide (fun (h : ¬ its[k].expr.length ≤ 100) => show r = false from by
        rw [HX2.out, List.all_eq_false]
        exact ⟨its[k], List.getElem_mem hlt, by simpa using h⟩)
      clear hc hE
      generalize its[k].expr.length = le at *
      by_cases hle : le ≤ 100
      · have HR := hide (HY.out hle)
        go_wp2
        all_goals first | (exfalso; omega) | skip
        exact ⟨⟨k + 1, by omega, by go_num, HR, hbel⟩, by simp [intOf]; omega⟩
      · have HR := hide (HN.out hle)
        go_wp2
        all_goals first | (exfalso; omega) | skip
        go_ret
        exact ⟨ret_bool HR.out.symm, hbw⟩
    · obtain rfl : k = its.length := by omega
      have HR := hide (show r = true from by
        rw [HX2.out, List.all_eq_true]
        intro x hx
        obtain ⟨j, hj, rfl⟩ := List.mem_iff_getElem.1 hx
        simpa using HZ.out j hj hj)
      go_wp2
      go_ret
      exact ⟨ret_bool HR.out.symm, hbw⟩
set_option maxRecDepth 100000 in
set_option maxHeartbeats 2000000 in
theorem law11_light_any (A : Option Addr) (ss : List Stp) (c : Nat) (w : World) (h : StpsAt w A ss) : Calls Tryz.prog 10 #[.slice A ss.length c] w fun e w' => e = .returned (.bool (lightsB ss)) ∧ Below w.heap.size w w' := by
  have HA := hide h
  have HX := hide (show lightsB ss = (decide (ss.length ≤ 30) && ss.all lightB) from rfl)
  clear h
  generalize lightsB ss = r at *
  by_cases h1 : ss.length ≤ 30
  rotate_left
  · have HR := hide (show r = false from by rw [HX.out]; simp [h1])
    generalize ss.length = ln at *
    clear HX HA
    go_enter Tryz.func10, Tryz.ntmps10
    go_wp2
    all_goals first | (go_ret; exact ⟨ret_bool HR.out.symm, zX⟩) | (exfalso; omega)
  have HX2 := hide (show r = ss.all lightB from by rw [HX.out]; simp [h1])
  clear HX
  go_enter Tryz.func10, Tryz.ntmps10
  go_wp2
  all_goals first | (exfalso; omega) | skip
  go_loopw [3] (fun i wr => ∃ k : Nat, k ≤ ss.length ∧ i = .int .i64 k ∧ Hid (∀ j (h : j < ss.length), j < k → lightB ss[j] = true) ∧ Below w.heap.size w wr) (fun i _ => ss.length - (intOf i).toNat)
  case atStart => exact ⟨0, by omega, rfl, fun j h hj => absurd hj (Nat.not_lt_zero _), Below.refl _ _⟩
  case round =>
    obtain ⟨k, hk, rfl, HZ, hbel⟩ := hrel
    by_cases hlt : k < ss.length
    · rcases HA.out.below hbel with e | ⟨g, off, rfl, hg, hc⟩
      · exact absurd hlt (by rw [e]; simp)
      obtain ⟨a, ha, c0, c1, c2, c3, c4, c5⟩ := hc k hlt
      have HV := hide (law11_lightStep_any ss[k] a wr ha)
      have HY := hide (fun (h : lightB ss[k] = true) => show ∀ j (h : j < ss.length), j < k + 1 → lightB ss[j] = true from fun j h' hj => by
        by_cases e : j = k
        · subst e; exact h
        · exact HZ.out j h' (by omega))
      have HN := hide (fun (h : lightB ss[k] = false) => show r = false from by
        rw [HX2.out, List.all_eq_false]
        exact ⟨ss[k], List.getElem_mem hlt, by rw [h]; decide⟩)
      clear hc ha
      generalize lightB ss[k] = v at *
      generalize ss[k] = x at *
      cases v
      · have HR := hide (HN.out rfl)
        go_wp2_with (go_at_call 11; refine (HV.out).mono ?_; rintro e w1 ⟨rfl, hb1⟩)
        go_ret
        exact ⟨ret_bool HR.out.symm, bel2 hb1 hbel⟩
      · have HR := hide (HY.out rfl)
        go_wp2_with (go_at_call 11; refine (HV.out).mono ?_; rintro e w1 ⟨rfl, hb1⟩)
        exact ⟨⟨k + 1, by omega, by go_num, HR, bel2 hb1 hbel⟩, by simp [intOf]; omega⟩
    · obtain rfl : k = ss.length := by omega
      have HR := hide (show r = true from by
        rw [HX2.out, List.all_eq_true]
        intro x hx
        obtain ⟨j, hj, rfl⟩ := List.mem_iff_getElem.1 hx
        exact HZ.out j hj hj)
      go_wp2
      go_ret
      exact ⟨ret_bool HR.out.symm, hbel⟩
end Go.Proofs.YtmbeeefkpgfgmaaGreatDoor
