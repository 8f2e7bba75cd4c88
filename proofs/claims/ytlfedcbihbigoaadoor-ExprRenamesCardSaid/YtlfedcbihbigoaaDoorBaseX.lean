/- Contracts: base.apply. -/
import Derived.Test.YtlfedcbihbigoaaDoorBaseV
set_option linter.unusedVariables false
set_option linter.unusedSimpArgs false
namespace Go.Proofs.YtlfedcbihbigoaaDoor
open Go.RowKit
theorem Tryd.info_nd : (Tryd.prog.info? 26).map (fun i => (i.zero, i.size, i.bytes)) = some (some (.agg #[.int .i64 0, .int .i64 0, .int .i64 0, .string ⟨#[]⟩, .string ⟨#[]⟩, .int .i64 0]), 6, 64) := by kernel_rfl
theorem nd_one : ∀ (es : List Nd), ∀ u ∈ ndCells es, u.oneCell' = true
  | [], u, h => by cases h
  | n :: es, u, h => by
    rw [show ndCells (n :: es) = n.cells ++ ndCells es from rfl] at h
    rcases List.mem_append.1 h with h | h
    · simp [Nd.cells] at h
      rcases h with rfl | rfl | rfl | rfl | rfl | rfl <;> rfl
    · exact nd_one es u h
theorem cells_6 {W : World} {B : Nat} {a b c d e f : Value} {t : TypeId} (h : W.heap[B]? = some (.cells #[a, b, c, d, e, f] t)) : ∀ (j : Nat) (u : Value), [a, b, c, d, e, f][j]? = some u → W.cell? ((⟨B, 0, none⟩ : Addr).add j) = some u := by
  intro j u hu
  have e : (⟨B, 0, none⟩ : Addr).add j = ⟨B, j, none⟩ := by unfold Addr.add; split <;> simp_all
  rw [e, cell_of_heap h]
  simpa using hu
/-- Operands: slices of nodes. -/
structure Opd where
  A : Option Addr
  es : List Nd
  c : Nat
def OpsAt (w : World) (g off : Nat) (os : List Opd) : Prop := g < w.heap.size ∧ ∀ i (h : i < os.length), w.cell? ⟨g, off + i, none⟩ = some (.slice os[i].A os[i].es.length os[i].c) ∧ NdsAt w os[i].A os[i].es ∧ os[i].es ≠ [] ∧ os[i].es.length ≤ 10000
theorem OpsAt.below {w w' : World} {g off : Nat} {os : List Opd} (h : OpsAt w g off os) (hb : Below w.heap.size w w') : OpsAt w' g off os :=
  ⟨Nat.lt_of_lt_of_le h.1 hb.size, fun i hi => by
    obtain ⟨h1, h2, h3, h4⟩ := h.2 i hi
    exact ⟨(hb.cell (p := ⟨g, _, none⟩) h.1).trans h1, h2.below hb, h3, h4⟩⟩
def flatO (os : List Opd) : List Nd := os.flatMap Opd.es
theorem flatO_succ {os : List Opd} {k : Nat} (h : k < os.length) : flatO (os.take (k + 1)) = flatO (os.take k) ++ os[k].es := by
  unfold flatO; rw [List.take_succ_eq_append_getElem h, List.flatMap_append]; simp
theorem ndCells_append (a b : List Nd) : ndCells (a ++ b) = ndCells a ++ ndCells b := by simp [ndCells]
theorem flatO_len {w : World} {g off : Nat} {os : List Opd} (h : OpsAt w g off os) : ∀ k, k ≤ os.length → (flatO (os.take k)).length ≤ k * 10000
  | 0, _ => by simp [flatO]
  | k + 1, hk => by
    have ih := flatO_len h k (by omega)
    have := (h.2 k (by omega)).2.2.2
    rw [flatO_succ (by omega), List.length_append]; omega
set_option maxRecDepth 100000 in
set_option maxHeartbeats 2000000 in
theorem base_apply_any (op : Int) (g off cc : Nat) (os : List Opd) (w : World) (h : OpsAt w g off os) (hl : os.length ≤ 10) :
    Calls Tryd.prog 33 #[.int .i64 op, .slice (some ⟨g, off, none⟩) os.length cc] w fun e w' => OwnNds w w' (flatO os ++ [⟨op, vl0, [], 0⟩]) e ∧ Below w.heap.size w w' := by
  have HA := hide h
  clear h
  obtain ⟨i0, hi, hz0, hz1, hz2⟩ := info_parts Tryd.info_nd
  go_enter Tryd.func33, Tryd.ntmps33
  go_wp2
  go_loopw [5, 6] (fun s i wr => ∃ (k : Nat) (A : Option Addr) (c : Nat), s = .slice A (flatO (os.take k)).length c ∧ i = .int .i64 k ∧ k ≤ os.length ∧
      wr.ownsRow w.heap.size 26 6 (.slice A (flatO (os.take k)).length c) (flatO (os.take k)).length (ndCells (flatO (os.take k))) ∧ Below w.heap.size w wr) (fun _ i _ => os.length - (intOf i).toNat)
  case atStart => exact ⟨0, none, 0, rfl, rfl, by omega, own_nil _ _ _ _, Below.refl _ _⟩
  case round =>
    obtain ⟨k, A, c, rfl, rfl, hk, hown, hbel⟩ := hrel
    have hsz := hbel.size
    have hfl := flatO_len HA.out k hk
    by_cases hlt : k < os.length
    · obtain ⟨hg, hcs⟩ := HA.out.below hbel
      obtain ⟨c0, hN, hne, hln⟩ := hcs k hlt
      have HT := hide (flatO_succ hlt)
      clear hcs
      generalize os[k] = o at *
      rcases hN with e | ⟨gn, on, ho, hgn, hcn⟩
      · exact absurd e hne
      have HC := hide (show ∀ j u, (ndCells o.es)[j]? = some u → wr.cell? ((⟨gn, on, none⟩ : Addr).add j) = some u from fun j u hu => by
        have e : (⟨gn, on, none⟩ : Addr).add j = ⟨gn, on + j, none⟩ := by cases j <;> simp [Addr.add]
        rw [e]; exact hcn j u hu)
      rw [ho] at c0
      clear hcn hne ho
      have HO := hide hown
      clear hown
      generalize hF : flatO (os.take k) = fl at *
      clear hF
      go_wp2_with (at_builtin; refine wpList_append_own _ rfl _ _ 22 rfl w.heap.size 26 i0 _ 6 64 Tryd.underlying22 hi hz0 hz1 hz2 rfl (by decide) _ _ _ rfl HO.out ⟨gn, on, none⟩ o.es.length o.c (ndCells o.es) rfl (ndCells_len _) HC.out (nd_one _) (by unfold maxLen; omega) (by omega) (by omega) ?_; intro v' w3 hown3 hgrow _)
      obtain ⟨A3, c3, rfl⟩ := own_form hown3
      have hb3 : Below w.heap.size w w3 := hbel.grown hgrow (by omega) (fun k hk => (HO.out.lt k hk).1)
      rw [← ndCells_append, ← List.length_append] at hown3
      rw [← List.length_append]
      exact ⟨⟨k + 1, A3, c3, by rw [HT.out], by go_num, by omega, by rw [HT.out]; exact hown3, hb3⟩, by simp [intOf]; omega⟩
    · obtain rfl : k = os.length := by omega
      rw [List.take_length] at hown hfl ⊢
      have HO := hide hown
      clear hown
      generalize hF : flatO os = fl at *
      go_wp2_with (at_builtin; refine wpList_append_own _ rfl _ _ 22 rfl w.heap.size 26 i0 _ 6 64 Tryd.underlying22 hi hz0 hz1 hz2 rfl (by decide) _ _ _ rfl (HO.out.alloc _) ⟨wr.heap.size, 0, none⟩ 1 1 [.int .i64 op, .int .i64 0, .int .i64 0, str [], str [], .int .i64 0] rfl rfl (by exact cells_6 (heap_alloc_new _ _)) (by simp [Value.oneCell']) (by unfold maxLen; omega) (by omega) (by simp; omega) ?_; intro v' w3 hown3 hgrow _)
      obtain ⟨A3, c3, rfl⟩ := own_form hown3
      have hb3 : Below w.heap.size w w3 := (hbel.alloc (by omega) _).grown hgrow (by simp; omega) (fun k hk => (HO.out.lt k hk).1)
      go_ret
      subst hF
      exact ⟨⟨A3, c3, by simp, by rw [ndCells_append, List.length_append]; exact hown3⟩, hb3⟩
end Go.Proofs.YtlfedcbihbigoaaDoor
