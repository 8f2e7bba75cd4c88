/- ExprRenames is proved: the law returns true for all nodes, names, numbers; no conditions. (Within: ref8.Same, Add, Columns, Rename, expr.Rename, the law's walk, the row, the card.) -/
import Derived.Test.YtlfedcbihbigoaaDoorColB
import Derived.Test.YtlfedcbihbigoaaDoorTypB
import Derived.Laws.AppendOwnNone
import Derived.Sort.Walk0
import Derived.Test.YtlfedcbihbigoaaDoorShelfE
import Derived.WalkSpells
import Derived.Test.YtlfedcbihbigoaaDoorTotJ
import Derived.Test.YtlfedcbihbigoaaDoorRowE
import Derived.Deep.Strs
import Derived.Carry
import Derived.Test.YtlfedcbihbigoaaDoorCards
import Derived.Test.YtlfedcbihbigoaaDoorTie
set_option linter.unusedVariables false
set_option linter.unusedSimpArgs false
namespace Go.Proofs.YtlfedcbihbigoaaDoor
open Go.RowKit
set_option maxRecDepth 100000 in
set_option maxHeartbeats 1000000 in
theorem ref8_Same_refl (A B : Option Addr) (es : List Nd) (ca cb : Nat) (w : World) (hA : NdsAt w A es) (hB : NdsAt w B es) (hl : es.length ≤ 1000000) :
    Calls Tryd.prog 17 #[.slice A es.length ca, .slice B es.length cb] w fun e w' => e = .returned (.bool true) ∧ Below w.heap.size w w' := by
  have HA := hide hA; have HB := hide hB
  clear hA hB
  go_enter Tryd.func17, Tryd.ntmps17
  go_wp2
  go_loopw [5] (fun i wr => ∃ k : Nat, k ≤ es.length ∧ i = .int .i64 k ∧ Below w.heap.size w wr) (fun i _ => es.length - (intOf i).toNat)
  case atStart => exact ⟨0, by omega, rfl, Below.refl _ _⟩
  case round =>
    obtain ⟨k, hk, rfl, hbel⟩ := hrel
    by_cases hlt : k < es.length
    · rcases HA.out.below hbel with e | ⟨ga, oa, rfl, hga, hca⟩
      · exact absurd hlt (by rw [e]; simp)
      rcases HB.out.below hbel with e | ⟨gb, ob, rfl, hgb, hcb⟩
      · exact absurd hlt (by rw [e]; simp)
      obtain ⟨n0, n1, n2, n3, n4, n5⟩ := nd_of_cells hca k hlt
      obtain ⟨m0, m1, m2, m3, m4, m5⟩ := nd_of_cells hcb k hlt
      clear hca hcb
      generalize es[k] = nd at *
      go_wp2
      go_big_quiet (fail)
      go_wp2
      exact ⟨⟨k + 1, by omega, by go_num, by (repeat (first | exact Below.refl _ _ | assumption | refine Below.drew ?_ | refine below_drewN ?_ _ | refine Below.alloc ?_ (by first | omega | (simp; done) | (simp; omega)) _ | refine Below.setCell ?_ (by first | omega | (simp; done) | (simp; omega)) _))⟩, by simp [intOf]; omega⟩
    · go_wp2
      go_ret
      exact ⟨rfl, hbel⟩
theorem texts_cells {W : World} {g off : Nat} {l m : List Bytes} (h : ∀ j (h : j < l.length), W.cell? ⟨g, off + j, none⟩ = some (str l[j])) (hm : m <+: l) : ∀ j u, (m.map str)[j]? = some u → W.cell? ((⟨g, off, none⟩ : Addr).add j) = some u := by
  intro j u hu
  obtain ⟨r, rfl⟩ := hm
  have hj : j < m.length := by
    rcases Nat.lt_or_ge j m.length with h9 | h9
    · exact h9
    · rw [List.getElem?_eq_none (by simpa using h9)] at hu; cases hu
  have e : (⟨g, off, none⟩ : Addr).add j = ⟨g, off + j, none⟩ := by cases j <;> simp [Addr.add]
  rw [e, h j (by simp; omega), ← hu]
  simp [hj]
theorem texts_drop {W : World} {g off : Nat} {l : List Bytes} (h : ∀ j (h : j < l.length), W.cell? ⟨g, off + j, none⟩ = some (str l[j])) (k : Nat) : ∀ j u, ((l.drop k).map str)[j]? = some u → W.cell? ((⟨g, off + k, none⟩ : Addr).add j) = some u := by
  intro j u hu
  have hj : j < (l.drop k).length := by
    rcases Nat.lt_or_ge j (l.drop k).length with h9 | h9
    · exact h9
    · rw [List.getElem?_eq_none (by simpa using h9)] at hu; cases hu
  have hj2 : k + j < l.length := by rw [List.length_drop] at hj; omega
  have e : (⟨g, off + k, none⟩ : Addr).add j = ⟨g, off + (k + j), none⟩ := by cases j <;> simp [Addr.add]; omega
  rw [e, h (k + j) hj2, ← hu]
  simp [hj2]
theorem txt_one (m : List Bytes) : ∀ u ∈ m.map str, u.oneCell' = true := fun u hu => by
  obtain ⟨b, _, rfl⟩ := List.mem_map.1 hu
  rfl
/-- Where a name is added to an ascending list. -/
theorem addS_at : ∀ (l : List Bytes) (x : Bytes) (k : Nat) (hk : k ≤ l.length), (∀ j (h : j < l.length), j < k → l[j] < x) → (∀ h : k < l.length, ¬ l[k] < x) →
    addS l x = if h : k < l.length then (if l[k] = x then l else l.take k ++ x :: l.drop k) else l ++ [x]
  | [], x, k, hk, _, _ => by simp [addS]
  | y :: l, x, 0, hk, _, h2 => by
    have := h2 (by simp)
    simp only [List.getElem_cons_zero] at this
    simp [addS, this]
  | y :: l, x, k + 1, hk, h1, h2 => by
    have hy := h1 0 (by simp) (by omega)
    simp only [List.getElem_cons_zero] at hy
    have ih := addS_at l x k (by simpa using hk) (fun j h hj => by have := h1 (j + 1) (by simpa using h) (by omega); rwa [List.getElem_cons_succ] at this) (fun h => by have := h2 (by simpa using h); rwa [List.getElem_cons_succ] at this)
    unfold addS
    rw [if_pos hy, ih]
    by_cases hl : k < l.length
    · simp only [dif_pos hl, List.length_cons, Nat.add_lt_add_iff_right, List.getElem_cons_succ]
      split
      · rfl
      · simp
    · simp [hl]
set_option maxRecDepth 100000 in
set_option maxHeartbeats 2000000 in
theorem ref8_Add_any (A : Option Addr) (l : List Bytes) (c : Nat) (x : Bytes) (w : World) (hA : TextsAt w A l) (hl : l.length ≤ 1000000) (hc : l.length ≤ c) (hcm : c ≤ maxLen) (hn : A = none → c = 0) :
    Calls Tryd.prog 30 #[.slice A l.length c, str x] w fun e w' => (∃ (B : Option Addr) (d : Nat), e = .returned (.slice B (addS l x).length d) ∧ TextsAt w' B (addS l x) ∧ (addS l x).length ≤ d ∧ d ≤ maxLen ∧ (B = none → d = 0)) ∧ Below w.heap.size w w' := by
  have HA := hide hA
  clear hA
  obtain ⟨i0, hi, hz0, hz1, hz2⟩ := info_parts Tryd.info_text
  go_enter Tryd.func30, Tryd.ntmps30
  go_wp2
  go_loopw [5] (fun i wr => ∃ k : Nat, k ≤ l.length ∧ i = .int .i64 k ∧ Hid (∀ j (h : j < l.length), j < k → l[j] < x) ∧ Below w.heap.size w wr) (fun i _ => l.length - (intOf i).toNat)
  case atStart => exact ⟨0, by omega, rfl, hide (fun j h hj => by omega), Below.refl _ _⟩
  case round =>
    obtain ⟨k, hk, rfl, HL, hbel⟩ := hrel
    have hsz := hbel.size
    by_cases hlt : k < l.length
    · rcases HA.out.below hbel with e | ⟨ga, oa, rfl, hga, hca⟩
      · exact absurd hlt (by rw [e]; simp)
      have c0 := hca k hlt
      by_cases hx : l[k] < x
      · have hbx : Op.bytesLess l[k] x = true := by rw [bytesLess_eq]; simpa using hx
        have HN := hide (show ∀ j (h : j < l.length), j < k + 1 → l[j] < x from fun j h hj => by
          by_cases e : j = k
          · subst e; exact hx
          · exact HL.out j h (by omega))
        clear hx hca
        go_wp2
        exact ⟨⟨k + 1, by omega, by go_num, HN, hbel⟩, by simp [intOf]; omega⟩
      · have hbx : Op.bytesLess l[k] x = false := by rw [bytesLess_eq]; simpa using hx
        have HE := hide (addS_at l x k hk HL.out (fun _ => hx))
        by_cases he : l[k] = x
        · have heb : (l[k] == x) = true := by simpa using he
          have HR := hide (show addS l x = l from by rw [HE.out, dif_pos hlt, if_pos he])
          clear hca hx he
          go_wp2
          go_ret
          rw [HR.out]
          exact ⟨⟨some ⟨ga, oa, none⟩, c, rfl, HA.out.below hbel, hc, hcm, fun e => by cases e⟩, hbel⟩
        · have heb : (l[k] == x) = false := by simpa using he
          have HR := hide (show addS l x = l.take k ++ x :: l.drop k from by rw [HE.out, dif_pos hlt, if_neg he])
          have HC1 := hide (texts_cells hca (List.take_prefix k l))
          have HC2 := hide (fun W (hW : Below wr.heap.size wr W) => texts_drop (W := W) (fun j h => (hW.cell (p := ⟨ga, _, none⟩) hga).trans (hca j h)) k)
          clear hx he
          have hck : ¬ c = k := by omega
          go_wp2_with (first
            | (at_builtin; refine wpList_append_own _ rfl _ _ 36 rfl wr.heap.size 9 i0 _ 1 16 Tryd.underlying36 hi hz0 hz1 hz2 rfl (by decide) _ 0 [] rfl (own_nil _ _ _ _) ⟨ga, oa, none⟩ k c ((l.take k).map str) rfl (by simp; omega) HC1.out (txt_one _) (by unfold maxLen; omega) (by omega) (by omega) ?_; intro v1 w1 o1 g1 _; obtain ⟨A1, c1, rfl⟩ := own_form o1; rw [Nat.zero_add, List.nil_append] at o1; have hs1 : Below wr.heap.size wr w1 := (Below.refl _ _).grown g1 (Nat.le_refl _) (fun k hk => by cases hk); have hb1 := bel2 hs1 hbel; have hh1 := hb1.size)
            | (at_builtin; refine wpList_append_own _ rfl _ _ 36 rfl wr.heap.size 9 i0 _ 1 16 Tryd.underlying36 hi hz0 hz1 hz2 rfl (by decide) _ _ _ rfl (o1.alloc _) ⟨w1.heap.size, 0, none⟩ 1 1 [str x] rfl rfl (by exact cells_1 (heap_alloc_new _ _)) (by simp [Value.oneCell']) (by unfold maxLen; omega) (by omega) (by have := hs1.size; simp; omega) ?_; intro v2 w2 o2 g2 _; obtain ⟨A2, c2, rfl⟩ := own_form o2; have hb2 : Below w.heap.size w w2 := (hb1.alloc hh1 _).grown g2 (by simp; omega) (fun k hk => Nat.le_trans hsz (o1.lt k hk).1); have hs2 : Below wr.heap.size wr w2 := (hs1.alloc hs1.size _).grown g2 (by have := hs1.size; simp; omega) (fun k hk => (o1.lt k hk).1); have hh2 := hb2.size)
            | (at_builtin; refine wpList_append_own _ rfl _ _ 36 rfl wr.heap.size 9 i0 _ 1 16 Tryd.underlying36 hi hz0 hz1 hz2 rfl (by decide) _ _ _ rfl o2 ⟨ga, oa + k, none⟩ (l.length - k) (c - k) ((l.drop k).map str) rfl (by simp) (HC2.out _ hs2) (txt_one _) (by unfold maxLen; omega) (by omega) hs2.size ?_; intro v3 w3 o3 g3 _; obtain ⟨A3, c3, rfl⟩ := own_form o3; have hb3 : Below w.heap.size w w3 := hb2.grown g3 hh2 (fun k hk => Nat.le_trans hsz (o2.lt k hk).1)))
          have hL : (l.take k ++ x :: l.drop k).length = k + 1 + (l.length - k) := by simp; omega
          have hV : (l.take k ++ x :: l.drop k).map str = (l.take k).map str ++ [str x] ++ (l.drop k).map str := by simp
          have own : w3.ownsRow w.heap.size 9 1 (.slice A3 (l.take k ++ x :: l.drop k).length c3) (l.take k ++ x :: l.drop k).length ((l.take k ++ x :: l.drop k).map str) := by rw [hL, hV]; exact own_low o3 hsz
          have HO := hide own
          have HLn := hide hL
          clear o3 own hL hV
          go_wp2
          go_ret
          rw [HR.out]
          exact ⟨⟨A3, c3, by rw [HLn.out]; rfl, TextsAt_of_own HO.out, (own_cap HO.out).1, (own_cap HO.out).2.1, fun e => ((own_cap HO.out).2.2 e).2⟩, hb3⟩
    · obtain rfl : k = l.length := by omega
      have HE := hide (addS_at l x l.length (Nat.le_refl _) HL.out (fun h => absurd h (Nat.lt_irrefl _)))
      have HR := hide (show addS l x = l ++ [x] from by rw [HE.out, dif_neg (Nat.lt_irrefl _)])
      cases A with
      | none =>
        obtain rfl := hn rfl
        obtain rfl : l = [] := List.eq_nil_of_length_eq_zero (by omega)
        simp only [List.length_nil, List.nil_append] at *
        go_wp2_with (first
          | (at_builtin; refine wpList_append_own_none rfl _ _ _ rfl wr.heap.size 9 i0 1 Tryd.underlying36 hi _ _ _ rfl (own_nil _ _ _ _) rfl ?_)
          | (at_builtin; refine wpList_append_own _ rfl _ _ 36 rfl wr.heap.size 9 i0 _ 1 16 Tryd.underlying36 hi hz0 hz1 hz2 rfl (by decide) _ _ _ rfl ((own_nil wr wr.heap.size _ _).alloc _) ⟨wr.heap.size, 0, none⟩ 1 1 [str x] rfl rfl (by exact cells_1 (heap_alloc_new _ _)) (by simp [Value.oneCell']) (by unfold maxLen; omega) (by omega) (by simp) ?_; intro v2 w2 o2 g2 _; obtain ⟨A2, c2, rfl⟩ := own_form o2; have hb2 : Below w.heap.size w w2 := (hbel.alloc hsz _).grown g2 (by simp; omega) (fun k hk => by cases hk); have hs2 : Below wr.heap.size wr w2 := ((Below.refl _ _).alloc (Nat.le_refl _) _).grown g2 (by simp) (fun k hk => by cases hk); have hh2 := hb2.size)
          | (at_builtin; refine wpList_append_own_none rfl _ _ _ rfl wr.heap.size 9 i0 1 Tryd.underlying36 hi _ _ _ rfl o2 rfl ?_))
        have own : w2.ownsRow w.heap.size 9 1 (.slice A2 [x].length c2) [x].length ([x].map str) := own_low o2 hsz
        have HO := hide own
        clear own o2
        go_ret
        rw [HR.out]
        exact ⟨⟨A2, c2, rfl, TextsAt_of_own HO.out, (own_cap HO.out).1, (own_cap HO.out).2.1, fun e => ((own_cap HO.out).2.2 e).2⟩, hb2⟩
      | some ad =>
        have HC1 := hide (show ∀ j u, (l.map str)[j]? = some u → wr.cell? (ad.add j) = some u from by
          rcases HA.out.below hbel with e | ⟨ga, oa, ha, hga, hca⟩
          · rw [e]; intro j u hu; simp at hu
          · injection ha with ha; subst ha
            exact texts_cells hca (List.prefix_refl l))
        by_cases hcl : c = l.length
        · subst hcl
          go_wp2_with (first
            | (at_builtin; refine wpList_append_own _ rfl _ _ 36 rfl wr.heap.size 9 i0 _ 1 16 Tryd.underlying36 hi hz0 hz1 hz2 rfl (by decide) _ 0 [] rfl (own_nil _ _ _ _) ad l.length _ (l.map str) rfl (by simp) HC1.out (txt_one _) (by unfold maxLen; omega) (by omega) (by omega) ?_; intro v1 w1 o1 g1 _; obtain ⟨A1, c1, rfl⟩ := own_form o1; rw [Nat.zero_add, List.nil_append] at o1; have hs1 : Below wr.heap.size wr w1 := (Below.refl _ _).grown g1 (Nat.le_refl _) (fun k hk => by cases hk); have hb1 := bel2 hs1 hbel; have hh1 := hb1.size)
            | (at_builtin; refine wpList_append_own _ rfl _ _ 36 rfl wr.heap.size 9 i0 _ 1 16 Tryd.underlying36 hi hz0 hz1 hz2 rfl (by decide) _ _ _ rfl (o1.alloc _) ⟨w1.heap.size, 0, none⟩ 1 1 [str x] rfl rfl (by exact cells_1 (heap_alloc_new _ _)) (by simp [Value.oneCell']) (by unfold maxLen; omega) (by omega) (by have := hs1.size; simp; omega) ?_; intro v2 w2 o2 g2 _; obtain ⟨A2, c2, rfl⟩ := own_form o2; have hb2 : Below w.heap.size w w2 := (hb1.alloc hh1 _).grown g2 (by simp; omega) (fun k hk => Nat.le_trans hsz (o1.lt k hk).1); have hs2 : Below wr.heap.size wr w2 := (hs1.alloc hs1.size _).grown g2 (by have := hs1.size; simp; omega) (fun k hk => (o1.lt k hk).1); have hh2 := hb2.size)
            | (at_builtin; refine wpList_append_own _ rfl _ _ 36 rfl wr.heap.size 9 i0 _ 1 16 Tryd.underlying36 hi hz0 hz1 hz2 rfl (by decide) _ _ _ rfl o2 _ 0 _ [] rfl rfl (fun j u hu => by simp at hu) (by simp) (by unfold maxLen; omega) (by omega) hs2.size ?_; intro v3 w3 o3 g3 _; obtain ⟨A3, c3, rfl⟩ := own_form o3; have hb3 : Below w.heap.size w w3 := hb2.grown g3 hh2 (fun k hk => Nat.le_trans hsz (o2.lt k hk).1)))
          have own : w3.ownsRow w.heap.size 9 1 (.slice A3 (l ++ [x]).length c3) (l ++ [x]).length ((l ++ [x]).map str) := by
            have e1 : (l ++ [x]).length = l.length + 1 := by simp
            have e2 : (l ++ [x]).map str = l.map str ++ [str x] := by simp
            rw [e1, e2]
            have := own_low o3 hsz
            rwa [Nat.add_zero, List.append_nil] at this
          have HO := hide own
          have HLn := hide (show (l ++ [x]).length = l.length + 1 from by simp)
          clear own o3
          go_wp2
          go_ret
          rw [HR.out]
          exact ⟨⟨A3, c3, by rw [HLn.out]; rfl, TextsAt_of_own HO.out, (own_cap HO.out).1, (own_cap HO.out).2.1, fun e => ((own_cap HO.out).2.2 e).2⟩, hb3⟩
        · skip
          go_wp2_with (first
            | (at_builtin; refine wpList_append_own _ rfl _ _ 36 rfl wr.heap.size 9 i0 _ 1 16 Tryd.underlying36 hi hz0 hz1 hz2 rfl (by decide) _ 0 [] rfl (own_nil _ _ _ _) ad l.length _ (l.map str) rfl (by simp) HC1.out (txt_one _) (by unfold maxLen; omega) (by omega) (by omega) ?_; intro v1 w1 o1 g1 _; obtain ⟨A1, c1, rfl⟩ := own_form o1; rw [Nat.zero_add, List.nil_append] at o1; have hs1 : Below wr.heap.size wr w1 := (Below.refl _ _).grown g1 (Nat.le_refl _) (fun k hk => by cases hk); have hb1 := bel2 hs1 hbel; have hh1 := hb1.size)
            | (at_builtin; refine wpList_append_own _ rfl _ _ 36 rfl wr.heap.size 9 i0 _ 1 16 Tryd.underlying36 hi hz0 hz1 hz2 rfl (by decide) _ _ _ rfl (o1.alloc _) ⟨w1.heap.size, 0, none⟩ 1 1 [str x] rfl rfl (by exact cells_1 (heap_alloc_new _ _)) (by simp [Value.oneCell']) (by unfold maxLen; omega) (by omega) (by have := hs1.size; simp; omega) ?_; intro v2 w2 o2 g2 _; obtain ⟨A2, c2, rfl⟩ := own_form o2; have hb2 : Below w.heap.size w w2 := (hb1.alloc hh1 _).grown g2 (by simp; omega) (fun k hk => Nat.le_trans hsz (o1.lt k hk).1); have hs2 : Below wr.heap.size wr w2 := (hs1.alloc hs1.size _).grown g2 (by have := hs1.size; simp; omega) (fun k hk => (o1.lt k hk).1); have hh2 := hb2.size)
            | (at_builtin; refine wpList_append_own _ rfl _ _ 36 rfl wr.heap.size 9 i0 _ 1 16 Tryd.underlying36 hi hz0 hz1 hz2 rfl (by decide) _ _ _ rfl o2 _ 0 _ [] rfl rfl (fun j u hu => by simp at hu) (by simp) (by unfold maxLen; omega) (by omega) hs2.size ?_; intro v3 w3 o3 g3 _; obtain ⟨A3, c3, rfl⟩ := own_form o3; have hb3 : Below w.heap.size w w3 := hb2.grown g3 hh2 (fun k hk => Nat.le_trans hsz (o2.lt k hk).1)))
          have own : w3.ownsRow w.heap.size 9 1 (.slice A3 (l ++ [x]).length c3) (l ++ [x]).length ((l ++ [x]).map str) := by
            have e1 : (l ++ [x]).length = l.length + 1 := by simp
            have e2 : (l ++ [x]).map str = l.map str ++ [str x] := by simp
            rw [e1, e2]
            have := own_low o3 hsz
            rwa [Nat.add_zero, List.append_nil] at this
          have HO := hide own
          have HLn := hide (show (l ++ [x]).length = l.length + 1 from by simp)
          clear own o3
          go_wp2
          go_ret
          rw [HR.out]
          exact ⟨⟨A3, c3, by rw [HLn.out]; rfl, TextsAt_of_own HO.out, (own_cap HO.out).1, (own_cap HO.out).2.1, fun e => ((own_cap HO.out).2.2 e).2⟩, hb3⟩
end Go.Proofs.YtlfedcbihbigoaaDoor

namespace Go.Proofs.YtlfedcbihbigoaaDoor
open Go.RowKit
theorem addS_len : ∀ (l : List Bytes) (x : Bytes), (addS l x).length ≤ l.length + 1
  | [], x => by simp [addS]
  | y :: l, x => by
    unfold addS
    split
    · have := addS_len l x
      simp only [List.length_cons]; omega
    · split <;> simp
theorem foldS_len : ∀ (xs l : List Bytes), (xs.foldl addS l).length ≤ l.length + xs.length
  | [], l => by simp
  | x :: xs, l => by
    have h1 := foldS_len xs (addS l x)
    have h2 := addS_len l x
    simp only [List.foldl_cons, List.length_cons]; omega
theorem colsS_len (es : List Nd) (k : Nat) : (colsS (es.take k)).length ≤ k := by
  unfold colsS
  have h1 := foldS_len (colNames (es.take k)) []
  have h2 := colNames_len es k
  simp at h1; omega
theorem colsS_yes {es : List Nd} {k : Nat} (h : k < es.length) (ho : es[k].op = 1) : colsS (es.take (k + 1)) = addS (colsS (es.take k)) es[k].name := by
  unfold colsS
  rw [colNames_yes h ho, List.foldl_append]; rfl
theorem colsS_no {es : List Nd} {k : Nat} (h : k < es.length) (ho : es[k].op ≠ 1) : colsS (es.take (k + 1)) = colsS (es.take k) := by
  unfold colsS
  rw [colNames_no h ho]
set_option maxRecDepth 100000 in
set_option maxHeartbeats 2000000 in
theorem ref8_Columns_any (A : Option Addr) (es : List Nd) (c : Nat) (w : World) (h : NdsAt w A es) (hl : es.length ≤ 1000000) :
    Calls Tryd.prog 16 #[.slice A es.length c] w fun e w' => (∃ (B : Option Addr) (d : Nat), e = .returned (.slice B (colsS es).length d) ∧ TextsAt w' B (colsS es)) ∧ Below w.heap.size w w' := by
  have HA := hide h
  clear h
  go_enter Tryd.func16, Tryd.ntmps16
  go_wp2
  go_loopw [3, 4] (fun s i wr => ∃ (k : Nat) (B : Option Addr) (d : Nat), s = .slice B (colsS (es.take k)).length d ∧ i = .int .i64 k ∧ k ≤ es.length ∧ Hid (TextsAt wr B (colsS (es.take k))) ∧ (colsS (es.take k)).length ≤ d ∧ d ≤ maxLen ∧ Hid (B = none → d = 0) ∧ Below w.heap.size w wr) (fun _ i _ => es.length - (intOf i).toNat)
  case atStart => exact ⟨0, none, 0, rfl, rfl, by omega, hide (.inl rfl), Nat.zero_le _, Nat.zero_le _, hide (fun _ => rfl), Below.refl _ _⟩
  case round =>
    obtain ⟨k, B, d, rfl, rfl, hk, HT, hd, hdm, HN, hbel⟩ := hrel
    have hcl := colsS_len es k
    by_cases hlt : k < es.length
    · rcases HA.out.below hbel with e | ⟨g, off, rfl, hg, hc⟩
      · exact absurd hlt (by rw [e]; simp)
      obtain ⟨n0, n1, n2, n3, n4, n5⟩ := nd_of_cells hc k hlt
      have HY := hide (fun ho => colsS_yes (es := es) hlt ho)
      have HNo := hide (fun ho => colsS_no (es := es) hlt ho)
      clear hc
      generalize hF : colsS (es.take k) = fl at *
      clear hF
      generalize es[k] = nd at *
      by_cases ho : nd.op = 1
      · have HY2 := hide (HY.out ho)
        rw [ho] at n0
        go_wp2_with fail
        refine (ref8_Add_any B fl d nd.name wr HT.out (by omega) hd hdm HN.out).mono ?_
        rintro e w3 ⟨⟨B3, d3, rfl, hT3, h31, h32, h33⟩, hb3⟩
        have HF := hide (And.intro hT3 (And.intro h31 (And.intro h32 h33)))
        clear hT3 h31 h32 h33
        go_wp2
        exact ⟨⟨k + 1, B3, d3, by rw [HY2.out], by go_num, by omega, hide (by rw [HY2.out]; exact HF.out.1), by rw [HY2.out]; exact HF.out.2.1, HF.out.2.2.1, hide HF.out.2.2.2, bel2 hb3 hbel⟩, by simp [intOf]; omega⟩
      · have hob : (nd.op == 1) = false := beq_eq_false_iff_ne.2 ho
        have HN2 := hide (HNo.out ho)
        go_wp2
        exact ⟨⟨k + 1, B, d, by rw [HN2.out], by go_num, by omega, hide (by rw [HN2.out]; exact HT.out), by rw [HN2.out]; exact hd, hdm, HN, hbel⟩, by simp [intOf]; omega⟩
    · obtain rfl : k = es.length := by omega
      rw [List.take_length] at HT hd ⊢
      go_wp2
      go_ret
      exact ⟨⟨B, d, rfl, HT.out⟩, hbel⟩
end Go.Proofs.YtlfedcbihbigoaaDoor

namespace Go.Proofs.YtlfedcbihbigoaaDoor
open Go.RowKit
/-- Where a name stands first, or the length. -/
def firstAt (f : List Bytes) (x : Bytes) : Nat := f.findIdx (· == x)
theorem firstAt_le (f : List Bytes) (x : Bytes) : firstAt f x ≤ f.length := List.findIdx_le_length
theorem firstAt_not {f : List Bytes} {x : Bytes} {j : Nat} (h : j < firstAt f x) : f.getD j [] ≠ x := by
  have hl : j < f.length := Nat.lt_of_lt_of_le h (firstAt_le f x)
  have := List.not_of_lt_findIdx h
  rw [List.getD_eq_getElem?_getD, List.getElem?_eq_getElem hl]
  simpa using this
theorem firstAt_hit {f : List Bytes} {x : Bytes} (h : firstAt f x < f.length) : f.getD (firstAt f x) [] = x := by
  have h2 : (f[firstAt f x]'h == x) = true := List.findIdx_getElem (p := (· == x)) (xs := f) (w := h)
  rw [List.getD_eq_getElem?_getD, List.getElem?_eq_getElem h]
  exact eq_of_beq h2
theorem firstAt_eq {f : List Bytes} {x : Bytes} {k : Nat} (hk : k < f.length) (hx : f.getD k [] = x) (hn : ∀ j, j < k → f.getD j [] ≠ x) : firstAt f x = k := by
  rcases Nat.lt_trichotomy (firstAt f x) k with h | h | h
  · exact absurd (firstAt_hit (Nat.lt_trans h hk)) (hn _ h)
  · exact h
  · exact absurd hx (firstAt_not h)
theorem firstAt_none {f : List Bytes} {x : Bytes} (hn : ∀ j, j < f.length → f.getD j [] ≠ x) : firstAt f x = f.length := by
  rcases Nat.lt_or_ge (firstAt f x) f.length with h | h
  · exact absurd (firstAt_hit h) (hn _ h)
  · exact Nat.le_antisymm (firstAt_le f x) h
def renN (f t : List Bytes) (n : Nd) : Nd := if n.op = 1 ∧ firstAt f n.name < f.length ∧ firstAt f n.name < t.length then ⟨n.op, n.val, t.getD (firstAt f n.name) [], n.arity⟩ else n
def renS (f t : List Bytes) (es : List Nd) : List Nd := es.map (renN f t)
theorem renS_len (f t : List Bytes) (es : List Nd) : (renS f t es).length = es.length := by simp [renS]
/-- The nodes when k of them have been renamed. -/
def renK (f t : List Bytes) (es : List Nd) (k : Nat) : List Nd := renS f t (es.take k) ++ es.drop k
theorem renK_len (f t : List Bytes) (es : List Nd) (k : Nat) : (renK f t es k).length = es.length := by
  unfold renK
  rw [List.length_append, renS_len, List.length_take, List.length_drop]; omega
theorem renK_zero (f t : List Bytes) (es : List Nd) : renK f t es 0 = es := by simp [renK, renS]
theorem renK_all (f t : List Bytes) (es : List Nd) : renK f t es es.length = renS f t es := by simp [renK]
theorem renK_get {f t : List Bytes} {es : List Nd} {k : Nat} (h : k < es.length) : (renK f t es k)[k]? = some es[k] := by
  unfold renK
  have hl : (renS f t (es.take k)).length = k := by rw [renS_len, List.length_take]; omega
  rw [List.getElem?_append_right (by omega), hl, Nat.sub_self, List.getElem?_drop]
  simp [h]
theorem renK_succ {f t : List Bytes} {es : List Nd} {k : Nat} (h : k < es.length) : renK f t es (k + 1) = (renK f t es k).set k (renN f t es[k]) := by
  unfold renK
  have hl : (renS f t (es.take k)).length = k := by rw [renS_len, List.length_take]; omega
  rw [List.set_append_right (h := by omega), hl, Nat.sub_self, List.drop_eq_getElem_cons h, List.set_cons_zero, List.take_succ_eq_append_getElem h]
  simp only [renS, List.map_append, List.map_cons, List.map_nil, List.append_assoc, List.cons_append, List.nil_append]
theorem renK_same {f t : List Bytes} {es : List Nd} {k : Nat} (h : k < es.length) (hs : renN f t es[k] = es[k]) : renK f t es (k + 1) = renK f t es k := by
  rw [renK_succ h, hs]
  apply List.ext_getElem? 
  intro j
  by_cases e : j = k
  · subst e
    rw [List.getElem?_set_self (by rw [renK_len]; exact h), renK_get h]
  · rw [List.getElem?_set_ne (fun e2 => e e2.symm)]
theorem renN_no {f t : List Bytes} {n : Nd} (h : n.op ≠ 1) : renN f t n = n := by unfold renN; rw [if_neg (fun e => h e.1)]
theorem renN_out {f t : List Bytes} {n : Nd} (h : ¬ (firstAt f n.name < f.length ∧ firstAt f n.name < t.length)) : renN f t n = n := by unfold renN; rw [if_neg (fun e => h e.2)]
theorem renN_yes {f t : List Bytes} {n : Nd} (h : n.op = 1) (h1 : firstAt f n.name < f.length) (h2 : firstAt f n.name < t.length) : renN f t n = ⟨n.op, n.val, t.getD (firstAt f n.name) [], n.arity⟩ := by unfold renN; rw [if_pos ⟨h, h1, h2⟩]
theorem ndCells_set : ∀ (es : List Nd) (k : Nat) (h : k < es.length) (nm : Bytes), (ndCells es).set (k * 6 + 4) (str nm) = ndCells (es.set k ⟨es[k].op, es[k].val, nm, es[k].arity⟩)
  | [], k, h, nm => by simp at h
  | n :: es, 0, h, nm => by
    show (n.cells ++ ndCells es).set 4 (str nm) = _
    rw [List.set_append_left (h := by simp [Nd.cells])]
    rfl
  | n :: es, k + 1, h, nm => by
    have ih := ndCells_set es k (by simpa using h) nm
    show (n.cells ++ ndCells es).set ((k + 1) * 6 + 4) (str nm) = _
    have hl : n.cells.length = 6 := by simp [Nd.cells]
    rw [List.set_append_right (h := by omega), hl, show (k + 1) * 6 + 4 - 6 = k * 6 + 4 by omega, ih]
    rfl
/-- What slices.Index says. -/
theorem idxOf_first (f : List Bytes) (x : Bytes) : Lib.idxOfS ((f.map fun b => (⟨b.toArray⟩ : ByteArray)).take f.length) ⟨x.toArray⟩ = if firstAt f x < f.length then (firstAt f x : Int) else -1 := by
  have key : ∀ j, j < f.length → ((f.map fun b => (⟨b.toArray⟩ : ByteArray)).getD j ByteArray.empty = ⟨x.toArray⟩ ↔ f.getD j [] = x) := by
    intro j hj
    simp only [List.getD_eq_getElem?_getD, List.getElem?_map, List.getElem?_eq_getElem hj, Option.map_some, Option.getD_some]
    constructor
    · intro h
      injection h with h
      simpa using congrArg Array.toList h
    · intro h; rw [h]
  split
  · rename_i h
    exact Lib.idxOfS_hit _ _ _ _ h (by simp) ((key _ h).2 (firstAt_hit h)) (fun j hj e => firstAt_not hj ((key j (by omega)).1 e))
  · rename_i h
    refine Lib.idxOfS_miss _ _ _ (fun j hj e => ?_)
    have h2 := (key j hj).1 e
    have h3 : firstAt f x = f.length := Nat.le_antisymm (firstAt_le f x) (by omega)
    exact firstAt_not (f := f) (x := x) (j := j) (by omega) h2
end Go.Proofs.YtlfedcbihbigoaaDoor

namespace Go.Proofs.YtlfedcbihbigoaaDoor
open Go.RowKit
theorem Index_texts (F : Option Addr) (f : List Bytes) (c : Nat) (x : Bytes) (w : World) (h : TextsAt w F f) (hl : f.length ≤ 1000000) :
    Calls Tryd.prog 27 #[.slice F f.length c, str x] w fun e w' => e = .returned (.int .i64 (if firstAt f x < f.length then (firstAt f x : Int) else -1)) ∧ w' = w := by
  rcases h with rfl | ⟨g, off, rfl, hg, hc⟩
  · exact Tryd.slices_Index_string_empty F c ⟨x.toArray⟩ w
  · rw [← idxOf_first]
    refine Tryd.slices_Index_string g off f.length c (f.map fun b => (⟨b.toArray⟩ : ByteArray)) ⟨x.toArray⟩ w (by simp) (by omega) (fun j hj => ?_)
    have hj' : j < f.length := by simpa using hj
    rw [hc j hj']
    simp [List.getD_eq_getElem?_getD, hj']
theorem Clone_nds (g off c : Nat) (es : List Nd) (w : World) (hl : es.length ≤ 1000000) (hc : ∀ j u, (ndCells es)[j]? = some u → w.cell? ⟨g, off + j, none⟩ = some u) :
    Calls Tryd.prog 26 #[.slice (some ⟨g, off, none⟩) es.length c] w fun e w' => OwnNds w w' es e ∧ Below w.heap.size w w' := by
  obtain ⟨i0, hi, hz0, hz1, hz2⟩ := info_parts Tryd.info_nd
  refine (Tryd.slices_Clone i0 _ 6 64 hi hz0 hz1 hz2 rfl (by decide) (fun w => by kernel_rfl) g off es.length c (ndCells es) w (ndCells_len _) (by unfold maxLen; omega) (by omega) hc (nd_one _)).mono ?_
  rintro e w' ⟨v', rfl, hown, _, hb⟩
  obtain ⟨A3, c3, rfl⟩ := own_form hown
  exact ⟨⟨A3, c3, rfl, hown⟩, hb⟩
set_option maxRecDepth 100000 in
set_option maxHeartbeats 4000000 in
theorem expr_Rename_some (g off c : Nat) (es : List Nd) (F : Option Addr) (f : List Bytes) (cf : Nat) (T : Option Addr) (t : List Bytes) (ct : Nat) (w : World) (hc : ∀ j u, (ndCells es)[j]? = some u → w.cell? ⟨g, off + j, none⟩ = some u) (hl : es.length ≤ 1000000) (h0 : 0 < es.length)
    (hF : TextsAt w F f) (hfl : f.length ≤ 1000000) (hT : TextsAt w T t) (htl : t.length ≤ 1000000) :
    Calls Tryd.prog 13 #[.slice (some ⟨g, off, none⟩) es.length c, .slice F f.length cf, .slice T t.length ct] w fun e w' => OwnNds w w' (renS f t es) e ∧ Below w.heap.size w w' := by
  have HF := hide hF; have HT := hide hT
  have HCl := hide (Clone_nds g off c es w hl hc)
  clear hF hT hc
  go_enter Tryd.func13, Tryd.ntmps13
  go_wp2_with fail
  refine HCl.out.mono ?_
  rintro e w1 ⟨⟨A1, c1, rfl, o1⟩, hb1⟩
  obtain ⟨g1, rfl⟩ := own_some o1 (by omega)
  have HO1 := hide o1
  clear o1
  go_wp2
  go_loopw [15] (fun i wr => ∃ k : Nat, i = .int .i64 k ∧ k ≤ es.length ∧ wr.ownsRow w.heap.size 26 6 (.slice (some ⟨g1, 0, none⟩) es.length c1) es.length (ndCells (renK f t es k)) ∧ Below w.heap.size w wr) (fun i _ => es.length - (intOf i).toNat)
  case atStart => exact ⟨0, rfl, by omega, by rw [renK_zero]; exact HO1.out, hb1⟩
  case round =>
    obtain ⟨k, rfl, hk, hown, hbel⟩ := hrel
    have hsz := hbel.size
    by_cases hlt : k < es.length
    · have hg := renK_get (f := f) (t := t) hlt
      have hN := NdsAt_of_own (es := renK f t es k) (by rw [renK_len]; exact hown)
      rcases hN with e | ⟨g2, o2, hA, hg2, hcc⟩
      · have := renK_len f t es k; rw [e] at this; simp at this; omega
      injection hA with hA
      injection hA with hA hA2
      subst hA hA2
      obtain ⟨n0, n1, n2, n3, n4, n5⟩ := nd_of_cells hcc k (by rw [renK_len]; exact hlt)
      have he : (renK f t es k)[k]'(by rw [renK_len]; exact hlt) = es[k] := by
        rw [List.getElem?_eq_getElem (by rw [renK_len]; exact hlt)] at hg
        exact Option.some.inj hg
      rw [he] at n0 n1 n2 n3 n4 n5
      simp only [Nat.zero_add] at n0 n1 n2 n3 n4 n5
      have HSet := hide (fun nm => ndCells_set (renK f t es k) k (by rw [renK_len]; exact hlt) nm)
      rw [he] at HSet
      have hg1 := (hown.lt g1 rfl).1
      have HS := hide (renK_succ (f := f) (t := t) hlt)
      have HSm := hide (fun hs => renK_same (f := f) (t := t) hlt hs)
      have HO := hide hown
      have HX := hide (fun W (hW : Below w.heap.size w W) => Index_texts F f cf es[k].name W (HF.out.below hW) hfl)
      have hfr := fun i => World.ownsRow.frozenAt hown i
      clear hown hcc hg he
      obtain ⟨nd, hn⟩ : ∃ nd, nd = es[k] := ⟨_, rfl⟩
      rw [← hn] at n0 n1 n2 n3 n4 n5 HS HSm HX HSet
      clear hn
      by_cases ho : nd.op = 1
      · rw [ho] at n0
        go_wp2_with fail
        refine (HX.out _ (by (repeat (first | exact Below.refl _ _ | assumption | refine Below.drew ?_ | refine below_drewN ?_ _ | refine Below.alloc ?_ (by first | omega | (simp; done) | (simp; omega)) _ | refine Below.setCell ?_ (by first | omega | (simp; done) | (simp; omega)) _)))).mono ?_
        rintro e w2 ⟨rfl, rfl⟩
        by_cases h1 : firstAt f nd.name < f.length
        · rw [if_pos h1]
          by_cases h2 : firstAt f nd.name < t.length
          · have HY := hide (renN_yes ho h1 h2)
            have HT2 := hide (fun W (hW : Below w.heap.size w W) => HT.out.below hW)
            rcases HT.out.below hbel with e | ⟨gt, ot, rfl, hgt, hct⟩
            · rw [e] at h2; simp at h2
            have d0 := hct _ h2
            clear hct
            have hx : t[firstAt f nd.name] = t.getD (firstAt f nd.name) [] := by simp [List.getD_eq_getElem?_getD, h2]
            rw [hx] at d0
            clear hx
            generalize firstAt f nd.name = p at *
            generalize t.getD p [] = y at *
            have HFin := hide (show (wr.setCell ⟨g1, k * 6 + 4, none⟩ (str y)).ownsRow w.heap.size 26 6 (.slice (some ⟨g1, 0, none⟩) es.length c1) es.length (ndCells (renK f t es (k + 1))) from by
              rw [HS.out, HY.out, ← HSet.out]; exact (World.ownsRow.stored HO.out (k * 6 + 4) (str y)).1)
            go_wp2
            exact ⟨⟨k + 1, by go_num, by omega, HFin.out.alloc _, by (repeat (first | exact Below.refl _ _ | assumption | refine Below.drew ?_ | refine below_drewN ?_ _ | refine Below.alloc ?_ (by first | omega | (simp; done) | (simp; omega)) _ | refine Below.setCell ?_ (by first | omega | (simp; done) | (simp; omega)) _))⟩, by simp [intOf]; omega⟩
          · have HE := hide (HSm.out (renN_out (fun e => h2 e.2)))
            generalize firstAt f nd.name = p at *
            go_wp2
            exact ⟨⟨k + 1, by go_num, by omega, by rw [HE.out]; exact own_below HO.out (by (repeat (first | exact Below.refl _ _ | assumption | refine Below.drew ?_ | refine below_drewN ?_ _ | refine Below.alloc ?_ (by first | omega | (simp; done) | (simp; omega)) _ | refine Below.setCell ?_ (by first | omega | (simp; done) | (simp; omega)) _))), by (repeat (first | exact Below.refl _ _ | assumption | refine Below.drew ?_ | refine below_drewN ?_ _ | refine Below.alloc ?_ (by first | omega | (simp; done) | (simp; omega)) _ | refine Below.setCell ?_ (by first | omega | (simp; done) | (simp; omega)) _))⟩, by simp [intOf]; omega⟩
        · rw [if_neg h1]
          have HE := hide (HSm.out (renN_out (fun e => h1 e.1)))
          go_wp2
          exact ⟨⟨k + 1, by go_num, by omega, by rw [HE.out]; exact own_below HO.out (by (repeat (first | exact Below.refl _ _ | assumption | refine Below.drew ?_ | refine below_drewN ?_ _ | refine Below.alloc ?_ (by first | omega | (simp; done) | (simp; omega)) _ | refine Below.setCell ?_ (by first | omega | (simp; done) | (simp; omega)) _))), by (repeat (first | exact Below.refl _ _ | assumption | refine Below.drew ?_ | refine below_drewN ?_ _ | refine Below.alloc ?_ (by first | omega | (simp; done) | (simp; omega)) _ | refine Below.setCell ?_ (by first | omega | (simp; done) | (simp; omega)) _))⟩, by simp [intOf]; omega⟩
      · have hob : (nd.op != 1) = true := by simpa using ho
        have HE := hide (HSm.out (renN_no ho))
        go_wp2
        exact ⟨⟨k + 1, by go_num, by omega, by rw [HE.out]; exact own_below HO.out (by (repeat (first | exact Below.refl _ _ | assumption | refine Below.drew ?_ | refine below_drewN ?_ _ | refine Below.alloc ?_ (by first | omega | (simp; done) | (simp; omega)) _ | refine Below.setCell ?_ (by first | omega | (simp; done) | (simp; omega)) _))), by (repeat (first | exact Below.refl _ _ | assumption | refine Below.drew ?_ | refine below_drewN ?_ _ | refine Below.alloc ?_ (by first | omega | (simp; done) | (simp; omega)) _ | refine Below.setCell ?_ (by first | omega | (simp; done) | (simp; omega)) _))⟩, by simp [intOf]; omega⟩
    · obtain rfl : k = es.length := by omega
      rw [renK_all] at hown
      go_wp2
      go_ret
      exact ⟨⟨some ⟨g1, 0, none⟩, c1, by rw [renS_len]; rfl, by rw [renS_len]; exact hown⟩, hbel⟩
end Go.Proofs.YtlfedcbihbigoaaDoor

namespace Go.Proofs.YtlfedcbihbigoaaDoor
open Go.RowKit
set_option maxRecDepth 100000 in
set_option maxHeartbeats 1000000 in
theorem Clone_zero (a : Addr) (c : Nat) (w : World) : Calls Tryd.prog 26 #[.slice (some a) 0 c] w fun e w' => OwnNds w w' [] e ∧ Below w.heap.size w w' := by
  obtain ⟨i0, hi, hz0, hz1, hz2⟩ := info_parts Tryd.info_nd
  have hq : ∀ w, (binOp .eql 22 (.slice (some a) 0 c) (.slice none 0 0)).run Tryd.prog w = .ok (.bool false) w := fun w => Lib.run_eql_slice_nil w 22 26 (some a) 0 c 0 0 Tryd.underlying22
  go_enter Tryd.func26, Tryd.ntmps26
  go_wp2_with (at_builtin; refine wpList_append_own _ rfl _ _ 22 rfl w.heap.size 26 i0 _ 6 64 Tryd.underlying22 hi hz0 hz1 hz2 rfl (by decide) _ _ _ rfl (own_fresh w (cur := #[]) (Nat.le_refl _) rfl (Nat.zero_le _)) a 0 c [] rfl rfl (fun j u hu => by simp at hu) (by simp) (by unfold maxLen; omega) (by omega) (by simp) ?_; intro v' w3 hown3 hgrow _)
  obtain ⟨A3, c3, rfl⟩ := own_form hown3
  have hb : Below w.heap.size w w3 := (Below.alloc (Below.refl _ _) (Nat.le_refl _) _).grown hgrow (by simp) (fun k hk => by have e : w.heap.size = k := (by simpa [Value.ownBlock, Act.eval] using hk); omega)
  go_ret
  exact ⟨⟨A3, c3, rfl, hown3⟩, hb⟩
theorem Clone_none (n c : Nat) (w : World) : Calls Tryd.prog 26 #[.slice none n c] w fun e w' => OwnNds w w' [] e ∧ Below w.heap.size w w' :=
  (Tryd.slices_Clone_nil n c w).mono fun e w' ⟨he, hw⟩ => by subst hw; exact ⟨⟨none, 0, he, own_nil _ _ _ _⟩, Below.refl _ _⟩
set_option maxRecDepth 100000 in
set_option maxHeartbeats 1000000 in
theorem expr_Rename_any (A : Option Addr) (es : List Nd) (c : Nat) (F : Option Addr) (f : List Bytes) (cf : Nat) (T : Option Addr) (t : List Bytes) (ct : Nat) (w : World) (hA : NdsAt w A es) (hl : es.length ≤ 1000000)
    (hF : TextsAt w F f) (hfl : f.length ≤ 1000000) (hT : TextsAt w T t) (htl : t.length ≤ 1000000) :
    Calls Tryd.prog 13 #[.slice A es.length c, .slice F f.length cf, .slice T t.length ct] w fun e w' => OwnNds w w' (renS f t es) e ∧ Below w.heap.size w w' := by
  by_cases h0 : 0 < es.length
  · rcases hA with e | ⟨g, off, rfl, hg, hc⟩
    · rw [e] at h0; simp at h0
    · exact expr_Rename_some g off c es F f cf T t ct w hc hl h0 hF hfl hT htl
  · obtain rfl : es = [] := List.eq_nil_of_length_eq_zero (by omega)
    have HC : Calls Tryd.prog 26 #[.slice A 0 c] w fun e w' => OwnNds w w' [] e ∧ Below w.heap.size w w' := by
      cases A with
      | none => exact Clone_none 0 c w
      | some a => exact Clone_zero a c w
    clear hA hF hT
    go_enter Tryd.func13, Tryd.ntmps13
    go_wp2_with fail
    refine HC.mono ?_
    rintro e w1 ⟨⟨A1, c1, rfl, o1⟩, hb1⟩
    have HO := hide o1
    clear o1 HC
    go_wp2
    go_loop [15] (fun i => i = .int .i64 0) (fun _ => 0)
    case atStart => rfl
    case round =>
      obtain rfl := hrel
      go_wp2
      go_ret
      exact ⟨⟨A1, c1, rfl, HO.out⟩, hb1⟩
end Go.Proofs.YtlfedcbihbigoaaDoor

namespace Go.Proofs.YtlfedcbihbigoaaDoor
open Go.RowKit
set_option maxRecDepth 100000 in
set_option maxHeartbeats 3000000 in
theorem ref8_Rename_some (g off c : Nat) (es : List Nd) (F : Option Addr) (f : List Bytes) (cf : Nat) (T : Option Addr) (t : List Bytes) (ct : Nat) (w : World) (hA : NdsAt w (some ⟨g, off, none⟩) es) (hc : ∀ j u, (ndCells es)[j]? = some u → w.cell? ⟨g, off + j, none⟩ = some u) (hg0 : g < w.heap.size) (hl : es.length ≤ 1000000) (h0 : 0 < es.length)
    (hF : TextsAt w F f) (hfl : f.length ≤ 1000000) (hT : TextsAt w T t) (htl : t.length ≤ 1000000) :
    Calls Tryd.prog 18 #[.slice (some ⟨g, off, none⟩) es.length c, .slice F f.length cf, .slice T t.length ct] w fun e w' => OwnNds w w' (renS f t es) e ∧ Below w.heap.size w w' := by
  have HF := hide hF; have HT := hide hT; have HC := hide hc; have HA := hide hA
  clear hF hT hc hA
  obtain ⟨i0, hi, hz0, hz1, hz2⟩ := info_parts Tryd.info_nd
  go_enter Tryd.func18, Tryd.ntmps18
  go_wp2_with (at_builtin; refine wpList_append_own _ rfl _ _ 22 rfl w.heap.size 26 i0 _ 6 64 Tryd.underlying22 hi hz0 hz1 hz2 rfl (by decide) _ 0 [] rfl (own_nil _ _ _ _) ⟨g, off, none⟩ es.length c (ndCells es) rfl (ndCells_len _) (fun j u hu => by have e : (⟨g, off, none⟩ : Addr).add j = ⟨g, off + j, none⟩ := (by cases j <;> simp [Addr.add]); rw [e]; exact HC.out j u hu) (nd_one _) (by unfold maxLen; omega) (by omega) (Nat.le_refl _) ?_; intro v1 w1 o1 g1 _; obtain ⟨A1, c1, rfl⟩ := own_form o1; rw [Nat.zero_add, List.nil_append] at o1; obtain ⟨g9, rfl⟩ := own_some o1 (by omega); have hb1 : Below w.heap.size w w1 := (Below.refl _ _).grown g1 (Nat.le_refl _) (fun k hk => by cases hk); have HO1 := hide o1; clear o1)
  go_loopw [8] (fun i wr => ∃ k : Nat, i = .int .i64 k ∧ k ≤ es.length ∧ wr.ownsRow w.heap.size 26 6 (.slice (some ⟨g9, 0, none⟩) es.length c1) es.length (ndCells (renK f t es k)) ∧ Below w.heap.size w wr) (fun i _ => es.length - (intOf i).toNat)
  case atStart => exact ⟨0, rfl, by omega, by rw [renK_zero]; exact HO1.out, hb1⟩
  case round =>
    obtain ⟨k, rfl, hk, hown, hbel⟩ := hrel
    by_cases hlt : k < es.length
    · have hrk : k < (renK f t es k).length := by rw [renK_len]; exact hlt
      have hg := renK_get (f := f) (t := t) hlt
      have he : (renK f t es k)[k] = es[k] := by rw [List.getElem?_eq_getElem hrk] at hg; exact Option.some.inj hg
      have HOp : Hid (∀ W : World, W.ownsRow w.heap.size 26 6 (.slice (some ⟨g9, 0, none⟩) es.length c1) es.length (ndCells (renK f t es k)) → W.cell? ⟨g9, k * 6, none⟩ = some (.int .i64 es[k].op) ∧ W.cell? ⟨g9, k * 6 + 4, none⟩ = some (str es[k].name)) := hide (fun W hW => by
        have hN := NdsAt_of_own (es := renK f t es k) (by rw [renK_len]; exact hW)
        rcases hN with e | ⟨g2, o2, hA, hg2, hcc⟩
        · rw [e] at hrk; simp at hrk
        injection hA with hA
        injection hA with hA hA2
        subst hA hA2
        obtain ⟨n0, n1, n2, n3, n4, n5⟩ := nd_of_cells hcc k hrk
        rw [he] at n0 n4
        simp only [Nat.zero_add] at n0 n4
        exact ⟨n0, n4⟩)
      have HNm := hide (fun (W : World) (hW : Below w.heap.size w W) => (nd_of_cells (w := W) (g := g) (off := off) (es := es) (fun j u hu => (hW.cell (p := ⟨g, _, none⟩) hg0).trans (HC.out j u hu)) k hlt).2.2.2.2.1)
      have HSet := hide (fun nm => ndCells_set (renK f t es k) k hrk nm)
      rw [he] at HSet
      have HS := hide (renK_succ (f := f) (t := t) hlt)
      have HSm := hide (fun hs => renK_same (f := f) (t := t) hlt hs)
      have HO := hide hown
      clear hown hg he hrk
      obtain ⟨nd, hn⟩ : ∃ nd, nd = es[k] := ⟨_, rfl⟩
      rw [← hn] at HS HSm HOp HNm HSet
      clear hn
      go_wp2
      go_loopw [9] (fun j w2 => ∃ q : Nat, j = .int .i64 q ∧ q ≤ f.length ∧ Hid (∀ p, p < q → f.getD p [] ≠ nd.name) ∧ w2.ownsRow w.heap.size 26 6 (.slice (some ⟨g9, 0, none⟩) es.length c1) es.length (ndCells (renK f t es k)) ∧ Below w.heap.size w w2) (fun j _ => f.length - (intOf j).toNat)
      case atStart => exact ⟨0, rfl, Nat.zero_le _, hide (fun p h => absurd h (Nat.not_lt_zero _)), HO.out, hbel⟩
      case round =>
        obtain ⟨q, rfl, hq, HNo, hown2, hbel2⟩ := hrel
        obtain ⟨n0, m4⟩ := HOp.out _ hown2
        have n4 := HNm.out _ hbel2
        have HO2 := hide hown2
        clear hown2
        by_cases hqf : q < f.length
        · rcases HF.out.below hbel2 with e | ⟨gf, of, rfl, hgf, hcf⟩
          · rw [e] at hqf; simp at hqf
          have d0 := hcf q hqf
          clear hcf
          have hx : f[q] = f.getD q [] := by simp [List.getD_eq_getElem?_getD, hqf]
          rw [hx] at d0
          clear hx
          by_cases ho : nd.op = 1
          · have HY1 := hide ho
            rw [ho] at n0
            by_cases hm : f.getD q [] = nd.name
            · have HE1 := hide (firstAt_eq hqf hm HNo.out)
              rw [hm] at d0
              clear hm
              by_cases ht : q < t.length
              · rcases HT.out.below hbel2 with e | ⟨gt, ot, rfl, hgt, hct⟩
                · rw [e] at ht; simp at ht
                have t0 := hct q ht
                clear hct
                have hy : t[q] = t.getD q [] := by simp [List.getD_eq_getElem?_getD, ht]
                rw [hy] at t0
                clear hy
                have HY := hide (renN_yes (f := f) (t := t) HY1.out (by rw [HE1.out]; exact hqf) (by rw [HE1.out]; exact ht))
                rw [HE1.out] at HY
                generalize t.getD q [] = y at *
                generalize f.getD q [] = y2 at *
                have HFin := hide (fun (W : World) (hW : W.ownsRow w.heap.size 26 6 (.slice (some ⟨g9, 0, none⟩) es.length c1) es.length (ndCells (renK f t es k))) => show (W.setCell ⟨g9, k * 6 + 4, none⟩ (str y)).ownsRow w.heap.size 26 6 (.slice (some ⟨g9, 0, none⟩) es.length c1) es.length (ndCells (renK f t es (k + 1))) from by
                  rw [HS.out, HY.out, ← HSet.out]; exact (World.ownsRow.stored hW (k * 6 + 4) (str y)).1)
                have hfr := fun i => World.ownsRow.frozenAt HO2.out i
                have hg9 := (HO2.out.lt g9 rfl).1
                go_wp2
                go_big_quiet (fail)
                go_wp2
                exact ⟨⟨k + 1, by go_num, by omega, HFin.out _ (own_below HO2.out (by (repeat (first | exact Below.refl _ _ | assumption | refine Below.drew ?_ | refine below_drewN ?_ _ | refine Below.alloc ?_ (by first | omega | (simp; done) | (simp; omega)) _ | refine Below.setCell ?_ (by first | omega | (simp; done) | (simp; omega)) _)))), by (repeat (first | exact Below.refl _ _ | assumption | refine Below.drew ?_ | refine below_drewN ?_ _ | refine Below.alloc ?_ (by first | omega | (simp; done) | (simp; omega)) _ | refine Below.setCell ?_ (by first | omega | (simp; done) | (simp; omega)) _))⟩, by simp [intOf]; omega⟩
              · have HE := hide (HSm.out (renN_out (fun e => ht (by rw [← HE1.out]; exact e.2))))
                generalize f.getD q [] = y2 at *
                go_wp2
                go_big_quiet (fail)
                go_wp2
                exact ⟨⟨k + 1, by go_num, by omega, by rw [HE.out]; exact own_below HO2.out (by (repeat (first | exact Below.refl _ _ | assumption | refine Below.drew ?_ | refine below_drewN ?_ _ | refine Below.alloc ?_ (by first | omega | (simp; done) | (simp; omega)) _ | refine Below.setCell ?_ (by first | omega | (simp; done) | (simp; omega)) _))), by (repeat (first | exact Below.refl _ _ | assumption | refine Below.drew ?_ | refine below_drewN ?_ _ | refine Below.alloc ?_ (by first | omega | (simp; done) | (simp; omega)) _ | refine Below.setCell ?_ (by first | omega | (simp; done) | (simp; omega)) _))⟩, by simp [intOf]; omega⟩
            · have hmb : (f.getD q [] == nd.name) = false := beq_eq_false_iff_ne.2 hm
              have HNo2 := hide (show ∀ p, p < q + 1 → f.getD p [] ≠ nd.name from fun p hp => by
                by_cases e : p = q
                · subst e; exact hm
                · exact HNo.out p (by omega))
              clear hm
              generalize f.getD q [] = y2 at *
              go_wp2
              go_big_quiet (fail)
              go_wp2
              exact ⟨⟨q + 1, by go_num, by omega, HNo2, own_below HO2.out (by (repeat (first | exact Below.refl _ _ | assumption | refine Below.drew ?_ | refine below_drewN ?_ _ | refine Below.alloc ?_ (by first | omega | (simp; done) | (simp; omega)) _ | refine Below.setCell ?_ (by first | omega | (simp; done) | (simp; omega)) _))), by (repeat (first | exact Below.refl _ _ | assumption | refine Below.drew ?_ | refine below_drewN ?_ _ | refine Below.alloc ?_ (by first | omega | (simp; done) | (simp; omega)) _ | refine Below.setCell ?_ (by first | omega | (simp; done) | (simp; omega)) _))⟩, by simp [intOf]; omega⟩
          · have hob : (nd.op == 1) = false := beq_eq_false_iff_ne.2 ho
            have HE := hide (HSm.out (renN_no ho))
            go_wp2
            exact ⟨⟨k + 1, by go_num, by omega, by rw [HE.out]; exact own_below HO2.out (by (repeat (first | exact Below.refl _ _ | assumption | refine Below.drew ?_ | refine below_drewN ?_ _ | refine Below.alloc ?_ (by first | omega | (simp; done) | (simp; omega)) _ | refine Below.setCell ?_ (by first | omega | (simp; done) | (simp; omega)) _))), by (repeat (first | exact Below.refl _ _ | assumption | refine Below.drew ?_ | refine below_drewN ?_ _ | refine Below.alloc ?_ (by first | omega | (simp; done) | (simp; omega)) _ | refine Below.setCell ?_ (by first | omega | (simp; done) | (simp; omega)) _))⟩, by simp [intOf]; omega⟩
        · obtain rfl : q = f.length := by omega
          have HE1 := hide (firstAt_none HNo.out)
          have HE := hide (HSm.out (renN_out (fun e => absurd e.1 (by rw [HE1.out]; exact Nat.lt_irrefl _))))
          go_wp2
          exact ⟨⟨k + 1, by go_num, by omega, by rw [HE.out]; exact own_below HO2.out (by (repeat (first | exact Below.refl _ _ | assumption | refine Below.drew ?_ | refine below_drewN ?_ _ | refine Below.alloc ?_ (by first | omega | (simp; done) | (simp; omega)) _ | refine Below.setCell ?_ (by first | omega | (simp; done) | (simp; omega)) _))), by (repeat (first | exact Below.refl _ _ | assumption | refine Below.drew ?_ | refine below_drewN ?_ _ | refine Below.alloc ?_ (by first | omega | (simp; done) | (simp; omega)) _ | refine Below.setCell ?_ (by first | omega | (simp; done) | (simp; omega)) _))⟩, by simp [intOf]; omega⟩
    · obtain rfl : k = es.length := by omega
      rw [renK_all] at hown
      go_wp2
      go_ret
      exact ⟨⟨some ⟨g9, 0, none⟩, c1, by rw [renS_len]; rfl, by rw [renS_len]; exact hown⟩, hbel⟩
set_option maxRecDepth 100000 in
set_option maxHeartbeats 1000000 in
theorem ref8_Rename_any (A : Option Addr) (es : List Nd) (c : Nat) (F : Option Addr) (f : List Bytes) (cf : Nat) (T : Option Addr) (t : List Bytes) (ct : Nat) (w : World) (hA : NdsAt w A es) (hl : es.length ≤ 1000000)
    (hF : TextsAt w F f) (hfl : f.length ≤ 1000000) (hT : TextsAt w T t) (htl : t.length ≤ 1000000) :
    Calls Tryd.prog 18 #[.slice A es.length c, .slice F f.length cf, .slice T t.length ct] w fun e w' => OwnNds w w' (renS f t es) e ∧ Below w.heap.size w w' := by
  by_cases h0 : 0 < es.length
  · have hA' := hA
    rcases hA with e | ⟨g, off, rfl, hg, hc⟩
    · rw [e] at h0; simp at h0
    · exact ref8_Rename_some g off c es F f cf T t ct w hA' hc hg hl h0 hF hfl hT htl
  · obtain rfl : es = [] := List.eq_nil_of_length_eq_zero (by omega)
    clear hA hF hT
    obtain ⟨i0, hi, hz0, hz1, hz2⟩ := info_parts Tryd.info_nd
    cases A with
    | none =>
      go_enter Tryd.func18, Tryd.ntmps18
      go_wp2_with (at_builtin; refine wpList_append_own_none rfl _ _ _ rfl w.heap.size 26 i0 6 Tryd.underlying22 hi _ _ _ rfl (own_nil _ _ _ _) rfl ?_)
      go_loop [8] (fun i => i = .int .i64 0) (fun _ => 0)
      case atStart => rfl
      case round =>
        obtain rfl := hrel
        go_wp2
        go_ret
        exact ⟨⟨none, 0, rfl, own_nil _ _ _ _⟩, Below.refl _ _⟩
    | some a =>
      go_enter Tryd.func18, Tryd.ntmps18
      go_wp2_with (at_builtin; refine wpList_append_own _ rfl _ _ 22 rfl w.heap.size 26 i0 _ 6 64 Tryd.underlying22 hi hz0 hz1 hz2 rfl (by decide) _ 0 [] rfl (own_nil _ _ _ _) a 0 c [] rfl rfl (fun j u hu => by simp at hu) (by simp) (by unfold maxLen; omega) (by omega) (by simp) ?_; intro v' w3 hown3 hgrow _; obtain ⟨A3, c3, rfl⟩ := own_form hown3; have hb3 : Below w.heap.size w w3 := (Below.refl _ _).grown hgrow (Nat.le_refl _) (fun k hk => by cases hk); have HO3 := hide hown3; clear hown3)
      go_loop [8] (fun i => i = .int .i64 0) (fun _ => 0)
      case atStart => rfl
      case round =>
        obtain rfl := hrel
        go_wp2
        go_ret
        exact ⟨⟨A3, c3, rfl, HO3.out⟩, hb3⟩
end Go.Proofs.YtlfedcbihbigoaaDoor

namespace Go.Proofs.YtlfedcbihbigoaaDoor
open Go.RowKit
def oldS : List Bytes := [[97], [98], [115]]
def newS : List Bytes := [[120, 97], [120, 98], [120, 115]]
theorem renN_back (n : Nd) (h : n.op = 1 → n.name ∈ colNm lawCols) : renN newS oldS (renN oldS newS n) = n := by
  by_cases ho : n.op = 1
  · have hm := h ho
    obtain ⟨op, val, nm, ar⟩ := n
    have ho2 : op = 1 := ho
    subst ho2
    have hm2 : nm ∈ [([97] : Bytes), [98], [115], [116]] := hm
    simp only [List.mem_cons, List.not_mem_nil, or_false] at hm2
    rcases hm2 with rfl | rfl | rfl | rfl <;> rfl
  · rw [renN_no ho, renN_no ho]
theorem renS_back {es : List Nd} (h : ColIn (colNm lawCols) es) : renS newS oldS (renS oldS newS es) = es := by
  unfold renS
  rw [List.map_map]
  have : es.map (renN newS oldS ∘ renN oldS newS) = es.map id := List.map_congr_left fun n hn => renN_back n (h n hn)
  rw [this, List.map_id]
theorem colsS_short (es : List Nd) : (colsS es).length ≤ es.length := by
  have := colsS_len es es.length
  rwa [List.take_length] at this
end Go.Proofs.YtlfedcbihbigoaaDoor

namespace Go.Proofs.YtlfedcbihbigoaaDoor
open Go.RowKit
set_option maxRecDepth 100000 in
set_option maxHeartbeats 2000000 in
theorem law8_ExprRenames_any (A : Option Addr) (es : List Nd) (rc : Nat) (F : Option Addr) (f : List Bytes) (fc : Nat) (T : Option Addr) (t : List Bytes) (tc : Nat) (L : Option Addr) (l : List Int) (lc : Nat) (n : Int) (w : World) (hW : StrVar w 0 wordsS) (hE : NdsAt w A es) (hF : TextsAt w F f) (hT : TextsAt w T t) (hL : IntsAt w L l) :
    Calls Tryd.prog 4 #[.slice A es.length rc, .slice F f.length fc, .slice T t.length tc, .slice L l.length lc, .int .i64 n] w fun e w' => e = .returned (.bool true) ∧ Below w.heap.size w w' := by
  have HW := hide hW; have HE := hide hE; have HF := hide hF; have HT := hide hT; have HL := hide hL
  clear hW hE hF hT hL
  by_cases hbad : es.length ≤ 400 ∧ f.length ≤ 50 ∧ t.length ≤ 50
  rotate_left
  · obtain ⟨b, hd, hcase⟩ : ∃ b, decide (es.length ≤ 400) = b ∧ (b = false ∨ (b = true ∧ 50 < f.length) ∨ (b = true ∧ f.length ≤ 50 ∧ 50 < t.length)) := by
      by_cases h4 : es.length ≤ 400
      · refine ⟨true, by simpa using h4, ?_⟩
        by_cases h5 : f.length ≤ 50
        · exact .inr (.inr ⟨rfl, h5, by omega⟩)
        · exact .inr (.inl ⟨rfl, by omega⟩)
      · exact ⟨false, by simpa using h4, .inl rfl⟩
    clear hbad
    rcases hcase with rfl | ⟨rfl, h5⟩ | ⟨rfl, h5, h6⟩
    all_goals
      go_enter Tryd.func4, Tryd.ntmps4
      go_wp2_with (go_at_call 5; refine (law8_light_any _ _ _ _).mono ?_; rw [hd]; rintro e w' ⟨rfl, rfl⟩)
      refine (law8_plain_any _ (HW.out.below (by (repeat (first | exact Below.refl _ _ | assumption | refine Below.drew ?_ | refine below_drewN ?_ _ | refine Below.alloc ?_ (by first | omega | (simp; done) | (simp; omega)) _ | refine Below.setCell ?_ (by first | omega | (simp; done) | (simp; omega)) _))))).mono ?_
      rintro e w1 ⟨rfl, hb1⟩
      go_wp2
      go_ret
      exact ⟨rfl, hb1⟩
  have hd : decide (es.length ≤ 400) = true := by simpa using hbad.1
  obtain ⟨h4, h5, h6⟩ := hbad
  go_enter Tryd.func4, Tryd.ntmps4
  go_wp2_with (go_at_call 5; refine (law8_light_any _ _ _ _).mono ?_; rw [hd]; rintro e w' ⟨rfl, rfl⟩)
  refine (law8_made_any L l lc n w HL.out).mono ?_
  rintro e w2 ⟨⟨es2, gd, A2, c2, rfl, o2⟩, hb2⟩
  have hs2 := gd.short (Nat.le_refl 4)
  have hbk := renS_back gd.2.1
  have HN2 := hide (NdsAt_of_own o2)
  clear o2 gd
  go_wp2_with fail
  have hbA : Below w2.heap.size w2 ((w2.alloc (.cells (oldS.map str).toArray 9)).alloc (.cells (newS.map str).toArray 9)) := ((Below.refl _ _).alloc (Nat.le_refl _) _).alloc (by simp) _
  have hTo := (TextsAt_new w2 9 oldS).below (Below.alloc (Below.refl _ (w2.alloc (.cells (oldS.map str).toArray 9))) (Nat.le_refl _) (.cells (newS.map str).toArray 9))
  have hTn := TextsAt_new (w2.alloc (.cells (oldS.map str).toArray 9)) 9 newS
  have hz : (w2.alloc (.cells (oldS.map str).toArray 9)).heap.size = w2.heap.size + 1 := by simp
  rw [hz] at hTn
  clear hz
  generalize hW0 : World.alloc (World.alloc w2 _) _ = W0
  have hb0 : Below w2.heap.size w2 W0 := by rw [← hW0]; exact hbA
  have HTo : TextsAt W0 (some ⟨w2.heap.size, 0, none⟩) oldS := by rw [← hW0]; exact hTo
  have HTn : TextsAt W0 (some ⟨w2.heap.size + 1, 0, none⟩) newS := by rw [← hW0]; exact hTn
  clear hW0 hbA hTo hTn
  have HTo := hide HTo
  have HTn := hide HTn
  refine (expr_Rename_any A2 es2 c2 _ oldS 3 _ newS 3 W0 (HN2.out.below hb0) (by omega) HTo.out (by decide) HTn.out (by decide)).mono ?_
  have hl3 : (renS oldS newS es2).length ≤ 121 := by rw [renS_len]; exact hs2
  rintro e w3 ⟨⟨A3, c3, rfl, o3⟩, hb3⟩
  have HN3 := hide (NdsAt_of_own o3)
  clear o3
  go_wp2_with fail
  refine (expr_Rename_any A3 (renS oldS newS es2) c3 _ newS 3 _ oldS 3 w3 HN3.out (by omega) (HTn.out.below hb3) (by decide) (HTo.out.below hb3) (by decide)).mono ?_
  rw [hbk]
  rintro e w4 ⟨⟨A4, c4, rfl, o4⟩, hb4⟩
  have hbw4 : Below w.heap.size w w4 := bel2 hb4 (bel2 hb3 (bel2 hb0 hb2))
  have HNy := hide (NdsAt_of_own o4)
  have HEr := hide (HE.out.below hbw4)
  have HFr := hide (HF.out.below hbw4)
  have HTr := hide (HT.out.below hbw4)
  have HWr := hide (HW.out.below hbw4)
  have HNe := hide (HN2.out.below (bel2 hb4 (bel2 hb3 hb0)))
  have HNx := hide (HN3.out.below hb4)
  have HOl := hide (HTo.out.below (bel2 hb4 hb3))
  have HNw := hide (HTn.out.below (bel2 hb4 hb3))
  have hc1 : (colsS es).length ≤ 400 := Nat.le_trans (colsS_short es) h4
  have hc2 : (colsS (renS oldS newS es2)).length ≤ 121 := Nat.le_trans (colsS_short _) hl3
  have hl4 : (renS f t es).length ≤ 400 := by rw [renS_len]; exact h4
  clear o4 hbk hb0 hb2 hb3 hb4 HN2 HN3 HTo HTn HE HF HT HW HL
  have hr4 : Below w4.heap.size w4 w4 := Below.refl _ _
  go_wp2_with fail
  refine (expr_Columns_any A es rc w4 (HEr.out.below hr4) (by omega)).mono ?_
  rintro e w5 ⟨⟨A5, c5, rfl, o5⟩, hb⟩
  have hr5 : Below w4.heap.size w4 w5 := bel2 hb hr4
  have HT5 := hide (TextsAt_of_own o5); clear o5 hb
  go_wp2_with fail
  refine (ref8_Columns_any A es rc w5 (HEr.out.below hr5) (by omega)).mono ?_
  rintro e w6 ⟨⟨A6, c6, rfl, t6⟩, hb⟩
  have hr6 : Below w4.heap.size w4 w6 := bel2 hb hr5
  have HT5 := hide (HT5.out.below hb); have HT6 := hide t6; clear t6 hb
  go_wp2_with fail
  refine (ref5_Strings_any A5 A6 (colsS es) (colsS es) c5 c6 w6 HT5.out HT6.out (by omega) (by omega)).mono ?_
  rw [decide_eq_true rfl]
  rintro e w7 ⟨rfl, hb⟩
  have hr7 : Below w4.heap.size w4 w7 := bel2 hb hr6
  clear hb HT5 HT6
  go_wp2_with fail
  refine (expr_Columns_any A3 (renS oldS newS es2) c3 w7 (HNx.out.below hr7) (by omega)).mono ?_
  rintro e w8 ⟨⟨A8, c8, rfl, o8⟩, hb⟩
  have hr8 : Below w4.heap.size w4 w8 := bel2 hb hr7
  have HT8 := hide (TextsAt_of_own o8); clear o8 hb
  go_wp2_with fail
  refine (ref8_Columns_any A3 (renS oldS newS es2) c3 w8 (HNx.out.below hr8) (by omega)).mono ?_
  rintro e w9 ⟨⟨A9, c9, rfl, t9⟩, hb⟩
  have hr9 : Below w4.heap.size w4 w9 := bel2 hb hr8
  have HT8 := hide (HT8.out.below hb); have HT9 := hide t9; clear t9 hb
  go_wp2_with fail
  refine (ref5_Strings_any A8 A9 (colsS (renS oldS newS es2)) (colsS (renS oldS newS es2)) c8 c9 w9 HT8.out HT9.out (by omega) (by omega)).mono ?_
  rw [decide_eq_true rfl]
  rintro e w10 ⟨rfl, hb⟩
  have hr10 : Below w4.heap.size w4 w10 := bel2 hb hr9
  clear hb HT8 HT9
  go_wp2_with fail
  refine (expr_Rename_any A es rc F f fc T t tc w10 (HEr.out.below hr10) (by omega) (HFr.out.below hr10) (by omega) (HTr.out.below hr10) (by omega)).mono ?_
  rintro e w11 ⟨⟨A11, c11, rfl, o11⟩, hb⟩
  have hr11 : Below w4.heap.size w4 w11 := bel2 hb hr10
  have HN11 := hide (NdsAt_of_own o11); clear o11 hb
  go_wp2_with fail
  refine (ref8_Rename_any A es rc F f fc T t tc w11 (HEr.out.below hr11) (by omega) (HFr.out.below hr11) (by omega) (HTr.out.below hr11) (by omega)).mono ?_
  rintro e w12 ⟨⟨A12, c12, rfl, o12⟩, hb⟩
  have hr12 : Below w4.heap.size w4 w12 := bel2 hb hr11
  have HN11 := hide (HN11.out.below hb); have HN12 := hide (NdsAt_of_own o12); clear o12 hb
  go_wp2_with fail
  refine (ref8_Same_refl A11 A12 (renS f t es) c11 c12 w12 HN11.out HN12.out (by omega)).mono ?_
  rintro e w13 ⟨rfl, hb⟩
  have hr13 : Below w4.heap.size w4 w13 := bel2 hb hr12
  clear hb HN11 HN12
  go_wp2_with fail
  refine (ref8_Rename_any A2 es2 c2 _ oldS 3 _ newS 3 w13 (HNe.out.below hr13) (by omega) (HOl.out.below hr13) (by decide) (HNw.out.below hr13) (by decide)).mono ?_
  rintro e w14 ⟨⟨A14, c14, rfl, o14⟩, hb⟩
  have hr14 : Below w4.heap.size w4 w14 := bel2 hb hr13
  have HN14 := hide (NdsAt_of_own o14); clear o14 hb
  go_wp2_with fail
  refine (ref8_Same_refl A3 A14 (renS oldS newS es2) c3 c14 w14 (HNx.out.below hr14) HN14.out (by omega)).mono ?_
  rintro e w15 ⟨rfl, hb⟩
  have hr15 : Below w4.heap.size w4 w15 := bel2 hb hr14
  clear hb HN14
  go_wp2_with fail
  refine (ref8_Same_refl A4 A2 es2 c4 c2 w15 (HNy.out.below hr15) (HNe.out.below hr15) (by omega)).mono ?_
  rintro e w16 ⟨rfl, hb⟩
  have hr16 : Below w4.heap.size w4 w16 := bel2 hb hr15
  clear hb
  go_wp2_with fail
  refine (law8_plain_any w16 (HWr.out.below hr16)).mono ?_
  rintro e w17 ⟨rfl, hb⟩
  have hr17 : Below w4.heap.size w4 w17 := bel2 hb hr16
  go_wp2
  go_ret
  exact ⟨rfl, bel2 hr17 hbw4⟩
end Go.Proofs.YtlfedcbihbigoaaDoor

namespace Go.Proofs.YtlfedcbihbigoaaDoor
open Go.ChangeShapes Go.WideShapes Go.ChangeAt Go.RowKit
theorem trodAll_five {H : Type} {enc : TypeId × Value → H} {P : Program} {w : World} {base : Nat} {spare : Nat → Bool} {held : Bool} {t t' t'' t3 t4 : TypeId} {args : Array Value} {ds : List (DataW H)} {ps : List MemPlace} (h : DataW.TrodAll enc P w base spare held [t, t', t'', t3, t4] args.toList ds ps) :
    ∃ v v' v'' v3 v4 d d' d'' d3 d4 p p' p'' p3 p4, args = #[v, v', v'', v3, v4] ∧ ds = [d, d', d'', d3, d4] ∧ ps = p ++ p' ++ p'' ++ p3 ++ p4 ∧ DataW.Trod enc P w base spare held t v d p ∧ DataW.Trod enc P w base spare held t' v' d' p' ∧ DataW.Trod enc P w base spare held t'' v'' d'' p'' ∧ DataW.Trod enc P w base spare held t3 v3 d3 p3 ∧ DataW.Trod enc P w base spare held t4 v4 d4 p4 := by
  obtain ⟨v, vs, d, ds', p, q, hargs, rfl, rfl, hd, hrest⟩ := trodAll_cons h
  obtain ⟨v', vs', d', ds'', p', q', rfl, rfl, rfl, hd', hrest'⟩ := trodAll_cons hrest
  obtain ⟨v'', vs'', d'', ds''', p'', q'', rfl, rfl, rfl, hd'', hrest''⟩ := trodAll_cons hrest'
  obtain ⟨v3, vs3, d3, ds3, p3, q3, rfl, rfl, rfl, hd3, hrest3⟩ := trodAll_cons hrest''
  obtain ⟨v4, vs4, d4, ds4, p4, q4, rfl, rfl, rfl, hd4, hrest4⟩ := trodAll_cons hrest3
  obtain ⟨rfl, rfl, rfl⟩ := trodAll_nil hrest4
  exact ⟨v, v', v'', v3, v4, d, d', d'', d3, d4, p, p', p'', p3, p4, by cases args; simp_all, rfl, by simp, hd, hd', hd'', hd3, hd4⟩
theorem trodAll_mk5 {H : Type} {enc : TypeId × Value → H} {P : Program} {w : World} {base : Nat} {spare : Nat → Bool} {held : Bool} {t t' t'' t3 t4 : TypeId} {v v' v'' v3 v4 : Value} {d d' d'' d3 d4 : DataW H} {p p' p'' p3 p4 : List MemPlace} (h : DataW.Trod enc P w base spare held t v d p) (h' : DataW.Trod enc P w base spare held t' v' d' p')
    (h'' : DataW.Trod enc P w base spare held t'' v'' d'' p'') (h3 : DataW.Trod enc P w base spare held t3 v3 d3 p3) (h4 : DataW.Trod enc P w base spare held t4 v4 d4 p4) : DataW.TrodAll enc P w base spare held [t, t', t'', t3, t4] [v, v', v'', v3, v4] [d, d', d'', d3, d4] (p ++ (p' ++ (p'' ++ (p3 ++ p4)))) := ⟨p, p' ++ (p'' ++ (p3 ++ p4)), h, trodAll_mk4 h' h'' h3 h4, rfl⟩
theorem Step.texts_of {H : Type} {enc : TypeId × Value → H} {W : World} {A : Option Addr} {len cap : Nat} {d : DataW H} {p : List MemPlace} {held : Bool}
    (h : DataW.Trod enc Tryd.prog W 0 (fun _ => true) held 36 (.slice A len cap) d p) : ∃ l : List Bytes, len = l.length ∧ TextsAt W A l := by
  obtain ⟨fuel, hf⟩ := h
  rcases Go.Deep.open_strs Tryd.underlying36 Tryd.underlying9 (by kernel_rfl) hf with ⟨hcs, _⟩ | ⟨a, len', cap', m, Sx, hcs, _, hl, hcm, hm, _, hx⟩
  · simp [Value.cells] at hcs
    obtain ⟨rfl, rfl, rfl⟩ := hcs
    exact ⟨[], rfl, .inl rfl⟩
  · simp [Value.cells] at hcs
    obtain ⟨rfl, rfl, rfl⟩ := hcs
    have hm' : m = cap := by simpa using hm
    subst hm'
    by_cases h0 : len = 0
    · subst h0
      exact ⟨[], rfl, .inl rfl⟩
    · obtain ⟨g, off, spot⟩ := a
      have hc0 := (hx 0 (by omega)).1
      have hspot : spot = none := by simpa [Addr.add] using World.cell?_spot hc0
      subst hspot
      refine ⟨(List.range len).map fun i => bs (Sx i), by simp, .inr ⟨g, off, rfl, ?_, fun j hj => ?_⟩⟩
      · have := World.block_lt_of_cell? W _ hc0
        simpa [Addr.add] using this
      · have hj2 : j < len := by simpa using hj
        have h6 := (hx j (by omega)).1
        rw [nd_addr_add] at h6
        rw [h6]
        simp only [List.getElem_map, List.getElem_range]
        show _ = some (Value.string ⟨(bs (Sx j)).toArray⟩)
        rw [mk_bs]
end Go.Proofs.YtlfedcbihbigoaaDoor

namespace Go.Proofs.YtlfedcbihbigoaaDoor
open Go.ChangeShapes Go.WideShapes Go.ChangeAt Go.RowKit
open Go.ChangeMaps (open_string shut_string)

set_option maxRecDepth 100000 in
set_option maxHeartbeats 2000000 in
theorem exprRenames_lifted (os : Os) (started : os.Started) (H : Type) (enc : TypeId × Value → H) :
    ReturnsInHanded {} Tryd.checked os 4 .any (fun w args => (Rows.exprRenamesSpec.pre enc Tryd.prog Tryd.f4 [] false w args ∧ laidMetH Tryd.prog Step.laidE w) ∧ sizedMet enc Tryd.prog Tryd.f4 (OpenSpec.ofChange Rows.exprRenamesSpec) false w args)
      (Rows.exprRenamesSpec.post enc Tryd.prog Tryd.f4 false true false false) := by
  refine returnsInHanded_of_change_and (C := Tryd.checked) (X := fun w _ => laidMetH Tryd.prog Step.laidE w) (fun _ _ _ hh h => h.of_heap hh) Step.own started (by kernel_rfl) Tryd.func4
    (ChangeSpec.witness_shaped (enc := enc) (C := Tryd.checked) (os := os) (X := fun w _ => laidMetH Tryd.prog Step.laidE w) false (World.laidAll Tryd.prog os Step.laidE) #[.slice none 0 0, .slice none 0 0, .slice none 0 0, .slice none 0 0, .int .i64 0] 8 (World.laidAll_os _ _ _) (Step.door_shapedE os _) (by kernel_rfl) (by kernel_rfl) (by kernel_rfl) (Step.door_metE os _)) ?_
  intro W base args ds gs before hval0 hW _ _ hL _
  have hval : ∀ (j : Nat) t v, Tryd.f4.params[j]? = some t → args[j]? = some v → Value.okWide Tryd.prog W .any base t v := hval0
  have hW' := hW
  obtain ⟨p, q, hA0, hV, rfl, hfz, hnd⟩ := hW
  have hA : DataW.TrodAll enc Tryd.prog W 0 (fun _ => true) true Tryd.f4.params.toList args.toList ds p := hA0
  rw [ Tryd.params4 ] at hA hval
  obtain ⟨v0, v1, v2, v3, v4, d0, d1, d2, d3, d4, p0, p1, p2, p3, p4, rfl, rfl, rfl, h0, h1, h2, h3, h4⟩ := trodAll_five hA
  obtain ⟨rfl, rfl⟩ := trodVars_none hV
  have k0 := h0
  have lt0 : ∀ x ∈ p0, x.block < W.heap.size := by obtain ⟨m, hm⟩ := k0; exact DataW.trod_lt m _ _ _ hm
  obtain ⟨A0, len0, cap0, rfl⟩ := okWide_slice Tryd.underlying22 (hval 0 22 v0 rfl rfl)
  obtain ⟨es0, rfl, hR0, hX0, hC0⟩ := Step.nds_of h0
  have k1 := h1
  have lt1 : ∀ x ∈ p1, x.block < W.heap.size := by obtain ⟨m, hm⟩ := k1; exact DataW.trod_lt m _ _ _ hm
  obtain ⟨A1, len1, cap1, rfl⟩ := okWide_slice Tryd.underlying36 (hval 1 36 v1 rfl rfl)
  obtain ⟨ts1, rfl, hT1⟩ := Step.texts_of h1
  have k2 := h2
  have lt2 : ∀ x ∈ p2, x.block < W.heap.size := by obtain ⟨m, hm⟩ := k2; exact DataW.trod_lt m _ _ _ hm
  obtain ⟨A2, len2, cap2, rfl⟩ := okWide_slice Tryd.underlying36 (hval 2 36 v2 rfl rfl)
  obtain ⟨ts2, rfl, hT2⟩ := Step.texts_of h2
  have k3 := h3
  have lt3 : ∀ x ∈ p3, x.block < W.heap.size := by obtain ⟨m, hm⟩ := k3; exact DataW.trod_lt m _ _ _ hm
  obtain ⟨A3, len3, cap3, rfl⟩ := okWide_slice Tryd.underlying27 (hval 3 27 v3 rfl rfl)
  obtain ⟨l3, rfl, hI3⟩ := Step.ints_of h3
  obtain ⟨n4, rfl, rfl, rfl, wn4⟩ := open_int Tryd.underlying3 (hval 4 3 v4 rfl rfl) h4
  have hG := Step.words_of_E hL
  clear hA0 hval0
  simp only [List.append_nil] at hW'
  refine (law8_ExprRenames_any A0 es0 cap0 A1 ts1 cap1 A2 ts2 cap2 A3 l3 cap3 n4 W hG hR0 hT1 hT2 hI3).mono fun e W' ⟨he, bel⟩ => ?_
  subst he
  exact ⟨_, rfl, _, _, _, [], _, [], hW', trodAll_mk1 (shut_bool Tryd.underlying4 _), trodAll_mk5 (Below.trod Step.laidOut (by kernel_rfl) (of_decide_eq_true (by kernel_rfl)) k0 bel lt0) (Below.trod Step.laidOut (by kernel_rfl) (of_decide_eq_true (by kernel_rfl)) k1 bel lt1) (Below.trod Step.laidOut (by kernel_rfl) (of_decide_eq_true (by kernel_rfl)) k2 bel lt2) (Below.trod Step.laidOut (by kernel_rfl) (of_decide_eq_true (by kernel_rfl)) k3 bel lt3) (shut_int Tryd.underlying3 wn4), rfl, bel.frame _, fun h => by cases h⟩

theorem exprRenames_row : Rows.ExprRenamesSaid :=
  OpenClaim.holds_of_wide 4 Tryd.f4 rfl rfl rfl rfl rfl rfl rfl ⟨rfl, rfl, rfl, rfl, rfl⟩ rfl rfl rfl rfl rfl (by kernel_rfl) Tryd.func4 (by kernel_rfl)
    (of_decide_eq_true (by kernel_rfl)) (by unfold Func.isWrapper; first | (rw [if_pos (by decide +kernel)]; kernel_rfl) | (rw [if_neg (by decide +kernel)]; exact ⟨rfl, rfl⟩))
    (fun os started H enc _ => exprRenames_lifted os started H enc)

theorem exprRenames_holds : Rows.ExprRenamesCardSaid :=
  Claim7.holds_tied_plain_at .later [] [.widerDeep] true (true, "758451c4bef42a791f16c83c0f8c5db725982334aca3f2c9ecfdb8e69b0f3b9d") false
    exprRenames_row (fun _ h => by cases h) (by kernel_rfl) (fun _ h => by cases h) exprRenames_row_tie rfl ⟨rfl, rfl⟩ (by kernel_rfl) rfl
    (fun f fn hf hfn => by
      obtain rfl : f = 4 := Option.some.inj ((show Tryd.prog.funcNamed "warehouse/warehouselaw8.ExprRenames" = some 4 by kernel_rfl).symm.trans hf) |>.symm
      obtain rfl : fn = Tryd.f4 := (Option.some.inj (Tryd.func4.symm.trans hfn)).symm
      exact ⟨by kernel_rfl, fun j t ht => by
        rw [ Tryd.params4 ] at ht
        have hm : t ∈ [ 22, 36, 36, 27, 3 ] := by simpa using Array.mem_of_getElem? ht
        have hall : ([ 22, 36, 36, 27, 3 ].all fun u => !Tryd.prog.wantsStandIn u) = true := by kernel_rfl
        exact (show Tryd.prog.wantsStandIn t = false by simpa using List.all_eq_true.1 hall t hm)⟩)
    (by kernel_rfl)
#print axioms exprRenames_holds
end Go.Proofs.YtlfedcbihbigoaaDoor
