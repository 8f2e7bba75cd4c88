/- Plain: names in ascending order, each once: sorting and compacting gives what adding one by one gives. No program in sight. Contracts: expr.Columns, ref5.Strings. Contract: ref5.Strings. Contract: the laws' sanity check of the functions that do not read texts (law8.plain). -/
import Derived.Test.YtlfedcbihbigoaaDoorExpS
import Derived.Lib.SlicesCompact
import Derived.Test.YtlfedcbihbigoaaDoorExpV
import Derived.Test.YtlfedcbihbigoaaDoorShelfC
import Derived.Sort.OwnSorted
import Derived.Deep.QuietTactic
import Derived.BigQuiet
import Derived.Test.YtlfedcbihbigoaaDoorBaseX
set_option linter.unusedVariables false
set_option linter.unusedSimpArgs false
namespace Go.Proofs.YtlfedcbihbigoaaDoor
open Go.RowKit
/-- A name added to an ascending list. -/
def addS : List Bytes → Bytes → List Bytes
  | [], x => [x]
  | y :: l, x => if y < x then y :: addS l x else if y = x then y :: l else x :: y :: l
def Asc (l : List Bytes) : Prop := l.Pairwise (· < ·)
theorem lt_or_eq_or_gt (a b : Bytes) : a < b ∨ a = b ∨ b < a := by
  by_cases h : a < b
  · exact .inl h
  · by_cases h2 : b < a
    · exact .inr (.inr h2)
    · exact .inr (.inl (List.le_antisymm (List.not_lt.1 h2) (List.not_lt.1 h)))
theorem mem_addS : ∀ (l : List Bytes) (x z : Bytes), z ∈ addS l x ↔ z = x ∨ z ∈ l
  | [], x, z => by simp [addS]
  | y :: l, x, z => by
    unfold addS
    split
    · simp only [List.mem_cons, mem_addS l x z]
      constructor
      · rintro (h | h | h) <;> simp [h]
      · rintro (h | h | h) <;> simp [h]
    · split
      · rename_i h; subst h; simp
      · simp
theorem asc_addS : ∀ (l : List Bytes) (x : Bytes), Asc l → Asc (addS l x)
  | [], x, _ => by simp [addS, Asc]
  | y :: l, x, h => by
    have h' := h
    unfold Asc at h
    rw [List.pairwise_cons] at h
    unfold addS
    split
    · rename_i hy
      unfold Asc
      rw [List.pairwise_cons]
      refine ⟨fun z hz => ?_, asc_addS l x h.2⟩
      rcases (mem_addS l x z).1 hz with rfl | hz
      · exact hy
      · exact h.1 z hz
    · split
      · exact h'
      · rename_i h1 h2
        have h3 : x < y := by
          rcases lt_or_eq_or_gt x y with h | h | h
          · exact h
          · exact absurd h.symm h2
          · exact absurd h h1
        unfold Asc
        rw [List.pairwise_cons]
        refine ⟨fun z hz => ?_, h'⟩
        rcases List.mem_cons.1 hz with rfl | hz
        · exact h3
        · exact List.lt_trans h3 (h.1 z hz)
theorem asc_unique : ∀ (l m : List Bytes), Asc l → Asc m → (∀ x, x ∈ l ↔ x ∈ m) → l = m
  | [], [], _, _, _ => rfl
  | [], y :: m, _, _, h => absurd ((h y).2 (by simp)) (by simp)
  | x :: l, [], _, _, h => absurd ((h x).1 (by simp)) (by simp)
  | x :: l, y :: m, hl, hm, h => by
    unfold Asc at hl hm
    rw [List.pairwise_cons] at hl hm
    have e : x = y := by
      have a := (h x).1 (by simp)
      have b := (h y).2 (by simp)
      rcases List.mem_cons.1 a with a | a
      · exact a
      rcases List.mem_cons.1 b with b | b
      · exact b.symm
      exact absurd (List.lt_trans (hm.1 x a) (hl.1 y b)) (List.lt_irrefl y)
    subst e
    congr 1
    refine asc_unique l m hl.2 hm.2 fun z => ?_
    constructor
    · intro hz
      rcases List.mem_cons.1 ((h z).1 (List.mem_cons_of_mem _ hz)) with e | e
      · subst e; exact absurd (hl.1 z hz) (List.lt_irrefl z)
      · exact e
    · intro hz
      rcases List.mem_cons.1 ((h z).2 (List.mem_cons_of_mem _ hz)) with e | e
      · subst e; exact absurd (hm.1 z hz) (List.lt_irrefl z)
      · exact e
theorem fold_addS : ∀ (xs l : List Bytes), Asc l → Asc (xs.foldl addS l) ∧ ∀ z, z ∈ xs.foldl addS l ↔ z ∈ xs ∨ z ∈ l
  | [], l, h => ⟨h, fun z => by simp⟩
  | x :: xs, l, h => by
    obtain ⟨h1, h2⟩ := fold_addS xs (addS l x) (asc_addS l x h)
    refine ⟨h1, fun z => ?_⟩
    rw [List.foldl_cons, h2 z, mem_addS]
    simp only [List.mem_cons]
    constructor
    · rintro (h | h | h) <;> simp [h]
    · rintro ((h | h) | h) <;> simp [h]
theorem compact_asc (d : Array Bytes) (hs : ∀ i j, i ≤ j → j < d.size → d[i]! ≤ d[j]!) : ∀ m, m ≤ d.size → Asc (Lib.compactUpTo d m) ∧ ∀ z, z ∈ Lib.compactUpTo d m ↔ ∃ j, j < m ∧ d[j]! = z
  | 0, _ => ⟨by simp [Lib.compactUpTo, Asc], fun z => by simp [Lib.compactUpTo]⟩
  | m + 1, hm => by
    obtain ⟨h1, h2⟩ := compact_asc d hs m (by omega)
    rw [Lib.compactUpTo_succ]
    by_cases hk : Lib.keeps d m = true
    · rw [if_pos hk]
      have hlt : ∀ z ∈ Lib.compactUpTo d m, z < d[m]! := by
        intro z hz
        obtain ⟨j, hj, rfl⟩ := (h2 z).1 hz
        have hne : d[m]! ≠ d[m - 1]! := by
          intro e
          rw [Lib.keeps_neg (by omega) e] at hk; cases hk
        have a := hs j (m - 1) (by omega) (by omega)
        have b := hs (m - 1) m (by omega) (by omega)
        rcases lt_or_eq_or_gt d[m - 1]! d[m]! with h | h | h
        · exact List.lt_of_le_of_lt a h
        · exact absurd h.symm hne
        · exact absurd h (List.not_lt.2 b)
      refine ⟨?_, fun z => ?_⟩
      · unfold Asc
        rw [List.pairwise_append]
        refine ⟨h1, by simp, fun a ha b hb => ?_⟩
        simp at hb; subst hb; exact hlt a ha
      · rw [List.mem_append, h2 z]
        constructor
        · rintro (⟨j, hj, e⟩ | h)
          · exact ⟨j, by omega, e⟩
          · simp at h; exact ⟨m, by omega, h.symm⟩
        · rintro ⟨j, hj, e⟩
          by_cases hjm : j = m
          · subst hjm; right; simp [e]
          · left; exact ⟨j, by omega, e⟩
    · rw [if_neg hk, List.append_nil]
      refine ⟨h1, fun z => ?_⟩
      rw [h2 z]
      constructor
      · rintro ⟨j, hj, e⟩; exact ⟨j, by omega, e⟩
      · rintro ⟨j, hj, e⟩
        by_cases hjm : j = m
        · subst hjm
          have h0 : 0 < j := by
            rcases Nat.eq_zero_or_pos j with h | h
            · subst h; exact absurd (Lib.keeps_lt_one d 0 (by omega)) hk
            · exact h
          have e2 : d[j]! = d[j - 1]! := by
            by_cases h : d[j]! = d[j - 1]!
            · exact h
            · exact absurd (Lib.keeps_pos h) hk
          exact ⟨j - 1, by omega, e2 ▸ e⟩
        · exact ⟨j, by omega, e⟩
theorem sorted_compact (ss : List Bytes) : Lib.compact (ss.mergeSort fun x y => decide (x ≤ y)) = ss.foldl addS [] := by
  have hp : (ss.mergeSort fun x y => decide (x ≤ y)).Pairwise (fun a b => decide (a ≤ b) = true) :=
    List.pairwise_mergeSort (fun a b c h1 h2 => by simp only [decide_eq_true_eq] at *; exact List.le_trans h1 h2) (fun a b => by simp only [Bool.or_eq_true, decide_eq_true_eq]; exact List.le_total a b) ss
  have hm : ∀ z, z ∈ (ss.mergeSort fun x y => decide (x ≤ y)) ↔ z ∈ ss := fun z => (List.mergeSort_perm ss _).mem_iff
  generalize (ss.mergeSort fun x y => decide (x ≤ y)) = zs at *
  have hs : ∀ i j, i ≤ j → j < zs.toArray.size → zs.toArray[i]! ≤ zs.toArray[j]! := by
    intro i j hij hj
    have hj' : j < zs.length := by simpa using hj
    have hi' : i < zs.length := by omega
    rw [getElem!_pos _ _ (by simpa using hi'), getElem!_pos _ _ (by simpa using hj')]
    by_cases e : i = j
    · subst e; exact List.le_refl _
    · have := (List.pairwise_iff_getElem.1 hp) i j hi' hj' (by omega)
      simpa using this
  obtain ⟨h1, h2⟩ := compact_asc zs.toArray hs zs.length (by simp)
  obtain ⟨h3, h4⟩ := fold_addS ss [] (by simp [Asc])
  refine asc_unique _ _ h1 h3 fun z => ?_
  show z ∈ Lib.compactUpTo zs.toArray zs.length ↔ _
  rw [h2 z, h4 z]
  simp only [List.not_mem_nil, or_false]
  rw [← hm z, List.mem_iff_getElem]
  constructor
  · rintro ⟨j, hj, e⟩
    rw [getElem!_pos _ _ (by simpa using hj)] at e
    exact ⟨j, hj, by simpa using e⟩
  · rintro ⟨j, hj, e⟩
    refine ⟨j, hj, ?_⟩
    rw [getElem!_pos _ _ (by simpa using hj)]
    simpa using e
/-- The names of the columns of some nodes, ascending, once each. -/
def colNames (es : List Nd) : List Bytes := (es.filter fun n => n.op == 1).map Nd.name
def colsS (es : List Nd) : List Bytes := (colNames es).foldl addS []
end Go.Proofs.YtlfedcbihbigoaaDoor

namespace Go.Proofs.YtlfedcbihbigoaaDoor
open Go.RowKit Go.Sort
theorem Tryd.info_text : (Tryd.prog.info? 9).map (fun i => (i.zero, i.size, i.bytes)) = some (some (.string ⟨#[]⟩), 1, 16) := by kernel_rfl
/-- A slice that reads as a list of texts. -/
def TextsAt (w : World) (A : Option Addr) (l : List Bytes) : Prop :=
  l = [] ∨ ∃ g off, A = some ⟨g, off, none⟩ ∧ g < w.heap.size ∧ ∀ j (h : j < l.length), w.cell? ⟨g, off + j, none⟩ = some (str l[j])
theorem TextsAt.below {w w' : World} {A : Option Addr} {l : List Bytes} (h : TextsAt w A l) (hb : Below w.heap.size w w') : TextsAt w' A l := by
  rcases h with h | ⟨g, off, hA, hg, hc⟩
  · exact .inl h
  · exact .inr ⟨g, off, hA, Nat.lt_of_lt_of_le hg hb.size, fun j hj => (hb.cell (p := ⟨g, _, none⟩) hg).trans (hc j hj)⟩
/-- A slice of these texts that the call has made. -/
def OwnTexts (w w' : World) (l : List Bytes) (e : Ending) : Prop :=
  ∃ (A : Option Addr) (c : Nat), e = .returned (.slice A l.length c) ∧ w'.ownsRow w.heap.size 9 1 (.slice A l.length c) l.length (l.map encStr)
theorem TextsAt_of_own {w : World} {base e c : Nat} {A : Option Addr} {l : List Bytes} (h : w.ownsRow base e 1 (.slice A l.length c) l.length (l.map encStr)) : TextsAt w A l := by
  rcases h.2 with ⟨_, hn⟩ | ⟨g, cap, cur, hv, hg, hh, hnc, hcap, hsz, htk⟩
  · exact .inl (List.eq_nil_of_length_eq_zero hn)
  · injection hv with h1 h2 h3
    subst h1
    refine .inr ⟨g, 0, rfl, lt_of_heap hh, fun j hj => ?_⟩
    have hc : w.cell? ⟨g, j, none⟩ = (l.map encStr)[j]? := World.ownsRow.cellAt h j (by omega)
    rw [Nat.zero_add, hc]
    simp [hj]
theorem colNames_yes {es : List Nd} {k : Nat} (h : k < es.length) (ho : es[k].op = 1) : colNames (es.take (k + 1)) = colNames (es.take k) ++ [es[k].name] := by
  unfold colNames
  rw [List.take_succ_eq_append_getElem h, List.filter_append, List.map_append]
  simp [ho]
theorem colNames_no {es : List Nd} {k : Nat} (h : k < es.length) (ho : es[k].op ≠ 1) : colNames (es.take (k + 1)) = colNames (es.take k) := by
  unfold colNames
  rw [List.take_succ_eq_append_getElem h, List.filter_append, List.map_append]
  simp [ho]
theorem colNames_len (es : List Nd) (k : Nat) : (colNames (es.take k)).length ≤ k := by
  unfold colNames
  rw [List.length_map]
  exact Nat.le_trans (List.length_filter_le _ _) (by rw [List.length_take]; omega)
theorem sort_own {w w' : World} {base e g cap n : Nat} {os : Array Obj} {ss ts : List Bytes} (hl : ts.length = ss.length) (h : w.ownsRow base e 1 (.slice (some ⟨g, 0, none⟩) ss.length cap) ss.length (ss.map encStr))
    (hw : w' = grow (putRow encStr (Go.Sort.ahead w n) g 0 ts.toArray) os) : w'.ownsRow base e 1 (.slice (some ⟨g, 0, none⟩) ss.length cap) ss.length (ts.map encStr) ∧ w.grownBy w' (some g) ∧ base ≤ g := by
  subst hw
  rcases h.2 with ⟨hv, hn⟩ | ⟨g', cap', cur, hv, hg, hh, hnc, hcap, hsz, htk⟩
  · cases hv
  · injection hv with h1 h2 h3
    injection h1 with h1
    injection h1 with h1
    subst h1 h3
    exact ⟨ownsRow_sorted hl hg hh hnc hcap hsz, grownBy_sorted _, hg⟩
theorem own_holds {w : World} {base e g cap : Nat} {ss : List Bytes} (h : w.ownsRow base e 1 (.slice (some ⟨g, 0, none⟩) ss.length cap) ss.length (ss.map encStr)) : Holds encStr w g 0 ss.toArray ∧ g < w.heap.size ∧ ss.length ≤ cap := by
  rcases h.2 with ⟨hv, hn⟩ | ⟨g', cap', cur, hv, hg, hh, hnc, hcap, hsz, htk⟩
  · cases hv
  · injection hv with h1 h2 h3
    injection h1 with h1
    injection h1 with h1
    subst h1 h3
    exact ⟨holds_of_block hh (by simpa using htk), lt_of_heap hh, hnc⟩
theorem own_some {w : World} {base e size n c : Nat} {A : Option Addr} {xs : List Value} (h : w.ownsRow base e size (.slice A n c) n xs) (hn : n ≠ 0) : ∃ g, A = some ⟨g, 0, none⟩ := by
  rcases h.2 with ⟨hv, hn0⟩ | ⟨g', cap', cur, hv, hg, hh, hnc, hcap, hsz, htk⟩
  · exact absurd hn0 hn
  · injection hv with h1 h2 h3
    exact ⟨g', h1⟩
set_option maxRecDepth 100000 in
set_option maxHeartbeats 2000000 in
theorem expr_Columns_any (A : Option Addr) (es : List Nd) (c : Nat) (w : World) (h : NdsAt w A es) (hl : es.length ≤ 1000000) :
    Calls Tryd.prog 15 #[.slice A es.length c] w fun e w' => OwnTexts w w' (colsS es) e ∧ Below w.heap.size w w' := by
  have HA := hide h
  clear h
  obtain ⟨i0, hi, hz0, hz1, hz2⟩ := info_parts Tryd.info_text
  go_enter Tryd.func15, Tryd.ntmps15
  go_wp2
  go_loopw [3, 8] (fun s i wr => ∃ (k : Nat) (B : Option Addr) (d : Nat), s = .slice B (colNames (es.take k)).length d ∧ i = .int .i64 k ∧ k ≤ es.length ∧
      wr.ownsRow w.heap.size 9 1 (.slice B (colNames (es.take k)).length d) (colNames (es.take k)).length ((colNames (es.take k)).map encStr) ∧ Below w.heap.size w wr) (fun _ i _ => es.length - (intOf i).toNat)
  case atStart => exact ⟨0, none, 0, rfl, rfl, by omega, own_nil _ _ _ _, Below.refl _ _⟩
  case round =>
    obtain ⟨k, B, d, rfl, rfl, hk, hown, hbel⟩ := hrel
    have hsz := hbel.size
    have hcl := colNames_len es k
    by_cases hlt : k < es.length
    · rcases HA.out.below hbel with e | ⟨g, off, rfl, hg, hc⟩
      · exact absurd hlt (by rw [e]; simp)
      obtain ⟨n0, n1, n2, n3, n4, n5⟩ := nd_of_cells hc k hlt
      have HY := hide (fun ho => colNames_yes (es := es) hlt ho)
      have HN := hide (fun ho => colNames_no (es := es) hlt ho)
      have HO := hide hown
      clear hc hown
      generalize hF : colNames (es.take k) = fl at *
      clear hF
      generalize es[k] = nd at *
      by_cases ho : nd.op = 1
      · have HY2 := hide (HY.out ho)
        rw [ho] at n0
        go_wp2_with (at_builtin; refine wpList_append_own _ rfl _ _ 36 rfl w.heap.size 9 i0 _ 1 16 Tryd.underlying36 hi hz0 hz1 hz2 rfl (by decide) _ _ _ rfl (own_below HO.out (by (repeat (first | exact Below.refl _ _ | assumption | refine Below.drew ?_ | refine below_drewN ?_ _ | refine Below.alloc ?_ (by first | omega | (simp; done) | (simp; omega)) _ | refine Below.setCell ?_ (by first | omega | (simp; done) | (simp; omega)) _)))) ⟨wr.heap.size + 1, 0, none⟩ 1 1 [str nd.name] rfl rfl (by exact cells_1 (by have := heap_alloc_new (wr.alloc (.cells #[.int .i64 1, .int .i64 nd.val.kind, .int .i64 nd.val.num, str nd.val.text, str nd.name, .int .i64 nd.arity] 26)) (.cells #[str nd.name] 9); simpa using this)) (by simp [Value.oneCell']) (by unfold maxLen; omega) (by omega) (by simp; omega) ?_; intro v' w3 hown3 hgrow _)
        obtain ⟨A3, c3, rfl⟩ := own_form hown3
        have hb3 : Below w.heap.size w w3 := (show Below w.heap.size w _ from by (repeat (first | exact Below.refl _ _ | assumption | refine Below.drew ?_ | refine below_drewN ?_ _ | refine Below.alloc ?_ (by first | omega | (simp; done) | (simp; omega)) _ | refine Below.setCell ?_ (by first | omega | (simp; done) | (simp; omega)) _))).grown hgrow (by simp; omega) (fun k hk => (HO.out.lt k hk).1)
        have e1 : (fl ++ [nd.name]).map encStr = fl.map encStr ++ [str nd.name] := by simp
        have e2 : (fl ++ [nd.name]).length = fl.length + 1 := by simp
        have HFin := hide (show w3.ownsRow w.heap.size 9 1 (.slice A3 (fl ++ [nd.name]).length c3) (fl ++ [nd.name]).length ((fl ++ [nd.name]).map encStr) from by rw [e1, e2]; exact hown3)
        clear hown3 hgrow e1
        go_wp2
        exact ⟨⟨k + 1, A3, c3, by rw [HY2.out, e2], by go_num, by omega, by rw [HY2.out]; exact HFin.out, hb3⟩, by simp [intOf]; omega⟩
      · have hob : (nd.op == 1) = false := beq_eq_false_iff_ne.2 ho
        have HN2 := hide (HN.out ho)
        go_wp2
        exact ⟨⟨k + 1, B, d, by rw [HN2.out], by go_num, by omega, by rw [HN2.out]; exact own_below HO.out (by (repeat (first | exact Below.refl _ _ | assumption | refine Below.drew ?_ | refine below_drewN ?_ _ | refine Below.alloc ?_ (by first | omega | (simp; done) | (simp; omega)) _ | refine Below.setCell ?_ (by first | omega | (simp; done) | (simp; omega)) _))), by (repeat (first | exact Below.refl _ _ | assumption | refine Below.drew ?_ | refine below_drewN ?_ _ | refine Below.alloc ?_ (by first | omega | (simp; done) | (simp; omega)) _ | refine Below.setCell ?_ (by first | omega | (simp; done) | (simp; omega)) _))⟩, by simp [intOf]; omega⟩
    · obtain rfl : k = es.length := by omega
      rw [List.take_length] at hown hcl ⊢
      have HO := hide hown
      have HS := hide (sorted_compact (colNames es))
      clear hown
      by_cases h0 : (colNames es).length = 0
      · have he : colNames es = [] := List.eq_nil_of_length_eq_zero h0
        have hcs : colsS es = [] := by unfold colsS; rw [he]; rfl
        rw [he] at HO
        rw [he]
        simp only [List.length_nil]
        go_wp2_with (first
          | (go_at_call 28; refine (Tryd.slices_Sort_string_none B d _).mono ?_; rintro e w' ⟨rfl, rfl⟩)
          | (go_at_call 29; refine (Tryd.slices_Compact_string_empty B d _).mono ?_; rintro e w' ⟨rfl, rfl⟩))
        go_ret
        rw [hcs]
        exact ⟨⟨B, d, rfl, HO.out⟩, hbel⟩
      · obtain ⟨g, rfl⟩ := own_some HO.out h0
        generalize hF : colNames es = fl at *
        have hcs : colsS es = fl.foldl addS [] := by unfold colsS; rw [hF]
        clear hF
        go_wp2_with fail
        obtain ⟨q1, q2, q3⟩ := own_holds HO.out
        refine (Tryd.slices_Sort_string g 0 d fl wr q1 q2 (by omega)).mono ?_
        rintro e w2 ⟨rfl, n, os, hw2⟩
        obtain ⟨s1, s2, s3⟩ := sort_own (ts := fl.mergeSort fun x y => decide (x ≤ y)) (by simp) HO.out hw2
        have hb2 : Below w.heap.size w w2 := hbel.grown s2 hsz (fun j hj => by injection hj with hj; omega)
        clear hw2 q1 q2
        have e1 : (fl.mergeSort fun x y => decide (x ≤ y)).length = fl.length := by simp
        generalize hT : (fl.mergeSort fun x y => decide (x ≤ y)) = ts at *
        have hts : ts.length ≤ 1000000 := by omega
        rw [← e1] at s1 ⊢
        clear e1
        obtain ⟨q1, q2, q3⟩ := own_holds s1
        go_wp2_with fail
        refine (Tryd.slices_Compact_string g 0 d ts w2 q1 (by omega) q3).mono ?_
        rintro e w3 ⟨rfl, n3, hw3⟩
        have e3 : (Lib.compact ts ++ List.replicate (ts.length - (Lib.compact ts).length) []).length = ts.length := by
          have : (Lib.compact ts).length ≤ ts.length := by
            unfold Lib.compact Lib.compactUpTo
            rw [List.length_map]
            exact Nat.le_trans (List.length_filter_le _ _) (by simp)
          rw [List.length_append, List.length_replicate]; omega
        obtain ⟨t1, t2, t3⟩ := sort_own (w' := w3) (os := #[]) e3 s1 (hw3.trans (grow_empty _).symm)
        clear hw3
        have hb3 : Below w.heap.size w w3 := hb2.grown t2 hb2.size (fun j hj => by injection hj with hj; omega)
        have hle : (Lib.compact ts).length ≤ ts.length := by
          rw [List.length_append] at e3; omega
        have u1 := own_take t1 hle
        have e4 : ((Lib.compact ts ++ List.replicate (ts.length - (Lib.compact ts).length) []).map encStr).take (Lib.compact ts).length = (Lib.compact ts).map encStr := by
          rw [List.map_append, List.take_left' (by simp)]
        rw [e4] at u1
        go_wp2
        go_ret
        rw [hcs, ← HS.out]
        exact ⟨⟨some ⟨g, 0, none⟩, d, rfl, u1⟩, hb3⟩
end Go.Proofs.YtlfedcbihbigoaaDoor

namespace Go.Proofs.YtlfedcbihbigoaaDoor
open Go.RowKit
theorem takes_eq {la lb : List Bytes} {k : Nat} (h : la.take k = lb.take k) (ha : k < la.length) (hb : k < lb.length) (e : la[k] = lb[k]) : la.take (k + 1) = lb.take (k + 1) := by
  rw [List.take_succ_eq_append_getElem ha, List.take_succ_eq_append_getElem hb, h, e]
set_option maxRecDepth 100000 in
set_option maxHeartbeats 2000000 in
theorem ref5_Strings_any (A B : Option Addr) (la lb : List Bytes) (ca cb : Nat) (w : World) (hA : TextsAt w A la) (hB : TextsAt w B lb) (h1 : la.length ≤ 1000000) (h2 : lb.length ≤ 1000000) :
    Calls Tryd.prog 14 #[.slice A la.length ca, .slice B lb.length cb] w fun e w' => e = .returned (.bool (decide (la = lb))) ∧ Below w.heap.size w w' := by
  have HA := hide hA; have HB := hide hB
  clear hA hB
  by_cases hne : la.length = lb.length
  rotate_left
  · have HR := hide (show decide (la = lb) = false from by simp; rintro rfl; exact hne rfl)
    have hb1 : ((la.length : Int) != (lb.length : Int)) = true := by simp; omega
    clear hne
    go_enter Tryd.func14, Tryd.ntmps14
    go_wp2
    go_ret
    exact ⟨ret_bool (by rw [HR.out]), Below.refl _ _⟩
  have hb1 : ((la.length : Int) != (lb.length : Int)) = false := by simp; omega
  have HL := hide hne
  clear hne
  go_enter Tryd.func14, Tryd.ntmps14
  go_wp2
  go_loopw [5] (fun i wr => ∃ k : Nat, k ≤ la.length ∧ i = .int .i64 k ∧ Hid (la.take k = lb.take k) ∧ Below w.heap.size w wr) (fun i _ => la.length - (intOf i).toNat)
  case atStart => exact ⟨0, by omega, rfl, hide rfl, Below.refl _ _⟩
  case round =>
    obtain ⟨k, hk, rfl, HE, hbel⟩ := hrel
    by_cases hlt : k < la.length
    · have hlt2 : k < lb.length := by rw [← HL.out]; exact hlt
      rcases HA.out.below hbel with e | ⟨ga, oa, rfl, hga, hca⟩
      · exact absurd hlt (by rw [e]; simp)
      rcases HB.out.below hbel with e | ⟨gb, ob, rfl, hgb, hcb⟩
      · exact absurd hlt2 (by rw [e]; simp)
      have c0 := hca k hlt
      have d0 := hcb k hlt2
      have HT := hide (fun e => takes_eq HE.out hlt hlt2 e)
      have HF := hide (fun (h : la[k] ≠ lb[k]) => show decide (la = lb) = false from by
        simp only [decide_eq_false_iff_not]
        intro e
        exact h (by simp only [e]))
      clear hca hcb
      generalize la[k] = x at *
      generalize lb[k] = y at *
      by_cases hxy : x = y
      · subst hxy
        go_wp2
        go_big_quiet (fail)
        go_wp2
        exact ⟨⟨k + 1, by omega, by go_num, hide (HT.out (by first | rfl | trivial)), by (repeat (first | exact Below.refl _ _ | assumption | refine Below.drew ?_ | refine below_drewN ?_ _ | refine Below.alloc ?_ (by first | omega | (simp; done) | (simp; omega)) _ | refine Below.setCell ?_ (by first | omega | (simp; done) | (simp; omega)) _))⟩, by simp [intOf]; omega⟩
      · have hxb : (x == y) = false := beq_eq_false_iff_ne.2 hxy
        have HF2 := hide (HF.out hxy)
        go_wp2
        go_big_quiet (fail)
        go_wp2
        go_ret
        exact ⟨ret_bool (by rw [HF2.out]), by (repeat (first | exact Below.refl _ _ | assumption | refine Below.drew ?_ | refine below_drewN ?_ _ | refine Below.alloc ?_ (by first | omega | (simp; done) | (simp; omega)) _ | refine Below.setCell ?_ (by first | omega | (simp; done) | (simp; omega)) _))⟩
    · obtain rfl : k = la.length := by omega
      have HR := hide (show decide (la = lb) = true from by
        have := HE.out
        rw [List.take_length, HL.out, List.take_length] at this
        simp [this])
      go_wp2
      go_ret
      exact ⟨ret_bool (by rw [HR.out]), hbel⟩
end Go.Proofs.YtlfedcbihbigoaaDoor

namespace Go.Proofs.YtlfedcbihbigoaaDoor
open Go.RowKit
def plainNds : List Nd := [⟨1, vl0, [98], 0⟩, ⟨1, vl0, [97], 0⟩, ⟨12, vl0, [], 0⟩]
theorem plain_v3 : validE plainNds = 0 := by decide
theorem plain_v2 : validE (plainNds.take 2) = 8 := by decide
theorem plain_cols : colsS plainNds = [[97], [98]] := by decide
theorem plain_names (k : Nat) : NamesOk (plainNds.take k) := fun n hn => by
  have hn := List.mem_of_mem_take hn
  simp only [plainNds, List.mem_cons, List.not_mem_nil, or_false] at hn
  rcases hn with rfl | rfl | rfl <;> (unfold maxLen; decide)
theorem NdsAt.take {w : World} {A : Option Addr} {es : List Nd} (h : NdsAt w A es) (k : Nat) : NdsAt w A (es.take k) := by
  rcases h with rfl | ⟨g, off, hA, hg, hc⟩
  · exact .inl (by simp)
  · refine .inr ⟨g, off, hA, hg, fun j u hu => hc j u ?_⟩
    have e : ndCells es = ndCells (es.take k) ++ ndCells (es.drop k) := by rw [← ndCells_append, List.take_append_drop]
    have hj : j < (ndCells (es.take k)).length := by
      rcases Nat.lt_or_ge j (ndCells (es.take k)).length with h1 | h1
      · exact h1
      · rw [List.getElem?_eq_none h1] at hu; cases hu
    rw [e, List.getElem?_append_left hj]; exact hu
theorem NdsAt_new (w : World) (t : TypeId) (es : List Nd) : NdsAt (w.alloc (.cells (ndCells es).toArray t)) (some ⟨w.heap.size, 0, none⟩) es := by
  refine .inr ⟨w.heap.size, 0, rfl, by simp, fun j u hu => ?_⟩
  rw [cell_of_heap (heap_alloc_new w _), Nat.zero_add]
  simpa using hu
theorem TextsAt_new (w : World) (t : TypeId) (l : List Bytes) : TextsAt (w.alloc (.cells (l.map str).toArray t)) (some ⟨w.heap.size, 0, none⟩) l := by
  refine .inr ⟨w.heap.size, 0, rfl, by simp, fun j hj => ?_⟩
  rw [cell_of_heap (heap_alloc_new w _), Nat.zero_add]
  simp [hj]
set_option maxRecDepth 100000 in
set_option maxHeartbeats 2000000 in
theorem law8_plain_any (w : World) (hW : StrVar w 0 wordsS) : Calls Tryd.prog 6 #[] w fun e w' => e = .returned (.bool true) ∧ Below w.heap.size w w' := by
  have HW := hide hW
  have HN := hide (NdsAt_new w 26 plainNds)
  have HN2 := hide ((NdsAt_new w 26 plainNds).take 2)
  have HV3 := hide plain_v3
  have HV2 := hide plain_v2
  clear hW
  go_enter Tryd.func6, Tryd.ntmps6
  go_wp2_with fail
  have hb0 : ∀ o, Below w.heap.size w (w.alloc o) := fun o => Below.alloc (Below.refl _ _) (Nat.le_refl _) o
  refine (expr_Validate_any _ plainNds 3 _ (HW.out.below (hb0 _)) HN.out (by decide) (plain_names 3)).mono ?_
  rw [HV3.out]
  rintro e w1 ⟨rfl, hb1⟩
  have hb1' := bel2 hb1 (hb0 _)
  go_wp2_with fail
  refine (expr_Validate_any _ (plainNds.take 2) 3 w1 (HW.out.below hb1') (HN2.out.below hb1) (by decide) (plain_names 2)).mono ?_
  rw [HV2.out]
  rintro e w2 ⟨rfl, hb2⟩
  have hb2' := bel2 hb2 hb1
  go_wp2_with fail
  refine (expr_Columns_any _ plainNds 3 w2 (HN.out.below hb2') (by decide)).mono ?_
  rw [plain_cols]
  rintro e w3 ⟨⟨A, c, rfl, hown⟩, hb3⟩
  have hb3' := bel2 hb3 (bel2 hb2' (hb0 _))
  have HT := hide (TextsAt_of_own hown)
  clear hown
  go_wp2_with fail
  refine (ref5_Strings_any A _ [[97], [98]] [[97], [98]] c 2 _ (HT.out.below (Below.alloc (Below.refl _ _) (Nat.le_refl _) _)) (TextsAt_new w3 _ [[97], [98]]) (by decide) (by decide)).mono ?_
  rintro e w4 ⟨rfl, hb4⟩
  have hb4' := (Below.alloc hb3' hb3'.size _).trans (hb4.mono (by have := hb3'.size; simp; omega))
  go_wp2
  go_ret
  exact ⟨rfl, hb4'⟩
end Go.Proofs.YtlfedcbihbigoaaDoor
