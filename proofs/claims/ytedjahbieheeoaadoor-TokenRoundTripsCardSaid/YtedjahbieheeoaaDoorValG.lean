/- Contract: law7.tokens: some list of n+1 tokens with short texts. -/
import Derived.Test.YtedjahbieheeoaaDoorValF
import Derived.Test.YtedjahbieheeoaaDoorBaseB
set_option linter.unusedVariables false
set_option linter.unusedSimpArgs false
namespace Go.Proofs.YtedjahbieheeoaaDoor
open Go.RowKit
theorem and_3 (i : Int) : bits .and .i64 i 3 = i % 4 := by
  show IntKind.i64.wrap ((BitVec.ofInt 64 i &&& BitVec.ofInt 64 3).toNat : Int) = _
  have h : (BitVec.ofInt 64 (3 : Int)).toNat = 2 ^ 2 - 1 := by decide
  rw [BitVec.toNat_and, h, Nat.and_two_pow_sub_one_eq_mod, IntKind.wrap_i64]
  simp only [BitVec.toNat_ofInt]
  omega
theorem lAt_le (l : List Int) (i : Int) : lAt l i ≤ 131072 := by
  unfold lAt
  split
  · omega
  · rename_i h
    have h1 : i % 65536 / (l.length : Int) ≤ i % 65536 := Int.ediv_le_self _ (by omega)
    omega
def shortT (ts : List Tok) : Prop := ∀ j (h : j < ts.length), ts[j].text.length ≤ 100
theorem shortT_nil : shortT [] := fun j h => absurd h (Nat.not_lt_zero _)
theorem shortT_snoc {ts : List Tok} {t : Tok} (h : shortT ts) (ht : t.text.length ≤ 100) : shortT (ts ++ [t]) := by
  intro j hj
  by_cases e : j < ts.length
  · rw [List.getElem_append_left e]; exact h j e
  · rw [List.getElem_append_right (by omega)]; simp; exact ht
def namesS : List Bytes := [[97], [102, 114, 111, 109], [109, 46, 98], [97, 95, 49]]
def textsS : List Bytes := [[], [105, 116, 39, 115], [35], [10]]
def signsS : List Bytes := [[40], [41], [60, 61], [43, 43], [61], [33], [45]]
/-- The token that a number stands for. -/
def mkY (y : Int) : Tok :=
  if y % 5 = 0 then ⟨1, namesS.getD (y / 8 % 4).toNat [], 0, y / 64 % 4⟩
  else if y % 5 = 1 then ⟨2, [], y / 8, y / 64 % 4⟩
  else if y % 5 = 2 then ⟨3, textsS.getD (y / 8 % 4).toNat [], 0, y / 64 % 4⟩
  else if y % 5 = 3 then ⟨4, [], y * 7000, y / 64 % 4⟩
  else ⟨5, signsS.getD (y / 8 % 7).toNat [], 0, y / 64 % 4⟩
def toksK (l : List Int) (k : Nat) : List Tok := (List.range k).map fun (i : Nat) => mkY (lAt l i)
def tokensS (l : List Int) (n : Nat) : List Tok := toksK l n ++ [tok0]
theorem toksK_succ (l : List Int) (k : Nat) : toksK l (k + 1) = toksK l k ++ [mkY (lAt l k)] := by unfold toksK; rw [List.range_succ, List.map_append]; rfl
theorem toksK_len (l : List Int) (k : Nat) : (toksK l k).length = k := by unfold toksK; simp
theorem tokensS_len (l : List Int) (k : Nat) : (tokensS l k).length = k + 1 := by unfold tokensS; simp [toksK_len]
theorem getD_short (ls : List Bytes) (h : ∀ x ∈ ls, x.length ≤ 100) (k : Nat) : (ls.getD k []).length ≤ 100 := by
  by_cases hk : k < ls.length
  · rw [List.getD_eq_getElem?_getD, List.getElem?_eq_getElem hk]; exact h _ (List.getElem_mem hk)
  · rw [List.getD_eq_getElem?_getD, List.getElem?_eq_none (by omega)]; simp
theorem mkY_short (y : Int) : (mkY y).text.length ≤ 100 := by
  unfold mkY
  split
  · exact getD_short namesS (by decide) _
  split
  · simp
  split
  · exact getD_short textsS (by decide) _
  split
  · simp
  · exact getD_short signsS (by decide) _
theorem shortT_of {ts : List Tok} (h : ∀ t ∈ ts, t.text.length ≤ 100) : shortT ts := fun j hj => h _ (List.getElem_mem hj)
theorem tokensS_short (l : List Int) (n : Nat) : shortT (tokensS l n) := shortT_of fun t ht => by
  unfold tokensS toksK at ht
  rw [List.mem_append, List.mem_map] at ht
  rcases ht with ⟨i, _, rfl⟩ | ht
  · exact mkY_short _
  · rw [List.mem_singleton] at ht; subst ht; simp [tok0]
def TokensRes (l : List Int) (n : Nat) (w' : World) (e : Ending) : Prop :=
  ∃ (A : Option Addr) (c : Nat), e = .returned (.slice A (n + 1) c) ∧ ToksAt w' A (tokensS l n) ∧ n + 1 ≤ c
theorem cells_g4 {W : World} {B : Nat} {a b c d : Value} {t : TypeId} (h : W.heap[B]? = some (.cells #[a, b, c, d] t)) : ∀ (j : Nat) (u : Value), [a, b, c, d][j]? = some u → W.cell? ((⟨B, 0, none⟩ : Addr).add j) = some u := by
  intro j u hu
  have e : (⟨B, 0, none⟩ : Addr).add j = ⟨B, j, none⟩ := by unfold Addr.add; split <;> simp_all
  rw [e, cell_of_heap h]
  simpa using hu
theorem own_cap {w : World} {base e size n c : Nat} {A : Option Addr} {xs : List Value} (h : w.ownsRow base e size (.slice A n c) n xs) : n ≤ c := by
  rcases h.2 with ⟨hv, hn⟩ | ⟨g, cap, cur, hv, hg, hh, hnc, _⟩
  · omega
  · injection hv with h1 h2 h3
    omega
theorem heap_new1 (w : World) (o1 o2 : Obj) : ((w.alloc o1).alloc o2).heap[w.heap.size + 1]? = some o2 := by
  have := heap_alloc_new (w.alloc o1) o2; simpa using this
theorem heap_new2 (w : World) (o1 o2 o3 : Obj) : (((w.alloc o1).alloc o2).alloc o3).heap[w.heap.size + 1 + 1]? = some o3 := by
  have := heap_alloc_new ((w.alloc o1).alloc o2) o3; simpa using this
set_option maxRecDepth 100000 in
set_option maxHeartbeats 8000000 in
theorem law7_tokens_any (A : Option Addr) (l : List Int) (c n : Nat) (w : World) (hI : IntsAt w A l) (hn : n ≤ 15) :
    Calls Tryd.prog 14 #[.slice A l.length c, .int .i64 n] w fun e w' => TokensRes l n w' e ∧ Below w.heap.size w w' := by
  have HI := hide hI; clear hI
  obtain ⟨i0, hi, hz0, hz1, hz2⟩ := info_parts Tryd.info_tok
  go_enter Tryd.func14, Tryd.ntmps14
  go_wp2
  generalize hW : w.alloc _ = W0
  have hB : Below w.heap.size w W0 := by subst hW; (repeat (first | exact Below.refl _ _ | assumption | refine Below.drew ?_ | refine below_drewN ?_ _ | refine Below.alloc ?_ (by first | omega | (simp; done) | (simp; omega)) _ | refine Below.setCell ?_ (by first | omega | (simp; done) | (simp; omega)) _))
  have hC : W0.heap[w.heap.size]? = some (.cells #[str [40], str [41], str [60, 61], str [43, 43], str [61], str [33], str [45]] 9) := by
    subst hW; exact heap_alloc_new w _
  have hZ := lt_of_heap hC
  have HC := hide hC
  clear hC hW
  go_loopw [5, 7] (fun v i wr => ∃ (k : Nat) (acc : List Tok) (A' : Option Addr) (c' : Nat), v = .slice A' acc.length c' ∧ i = .int .i64 k ∧ k ≤ n ∧ Hid (acc = toksK l k) ∧
        wr.ownsRow W0.heap.size 44 4 (.slice A' acc.length c') acc.length (tokCells acc) ∧ Below W0.heap.size W0 wr) (fun _ i _ => n - (intOf i).toNat)
  case atStart => exact ⟨0, [], none, 0, rfl, rfl, by omega, rfl, own_nil _ _ _ _, Below.refl _ _⟩
  case round =>
    obtain ⟨k, acc, A', c', rfl, rfl, hk, HS, hown, hbel2⟩ := hrel
    have hbel := hB.trans (hbel2.mono hB.size)
    have hsz := hbel.size
    have hsz2 := hbel2.size
    have hal : acc.length ≤ 16 := by rw [HS.out, toksK_len]; omega
    by_cases hlt : k < n
    · have hy := lAt_nonneg l k
      have hy2 := lAt_le l k
      have HAt := hide (base_At_any A l k wr c (HI.out.below hbel))
      have HStep := hide (fun t (ht : mkY (lAt l k) = t) => show acc ++ [t] = toksK l (k + 1) by rw [toksK_succ, ht, HS.out])
      generalize lAt l k = y at *
      have hq : bits .and .i64 (y / 64) 3 = y / 64 % 4 := and_3 _
      have hp : bits .and .i64 (y / 8) 3 = y / 8 % 4 := and_3 _
      go_wp2_with fail
      refine HAt.out.mono ?_
      rintro e w' ⟨rfl, m', rfl⟩
      have hown1 := own_below hown (below_drewN (Below.refl _ _) m')
      have hb1 := below_drewN hbel m'
      have hb2 := below_drewN hbel2 m'
      clear hown hbel hbel2 hsz HAt hsz2
      generalize wr.drewN m' = w1 at *
      have hsz := hb1.size
      have hsz2 := hb2.size
      have hzz : w.heap.size < w1.heap.size := by omega
      have hcs : ∀ j, j < 7 → w1.cell? ⟨w.heap.size, j, none⟩ = (#[str [40], str [41], str [60, 61], str [43, 43], str [61], str [33], str [45]] : Array Value)[j]? := fun j _ => by
        rw [hb2.cell (p := ⟨w.heap.size, j, none⟩) hZ]; exact cell_of_heap HC.out j
      obtain h5 | h5 | h5 | h5 | h5 : y % 5 = 0 ∨ y % 5 = 1 ∨ y % 5 = 2 ∨ y % 5 = 3 ∨ y % 5 = 4 := by omega
      · clear hcs
        obtain h4 | h4 | h4 | h4 : y / 8 % 4 = 0 ∨ y / 8 % 4 = 1 ∨ y / 8 % 4 = 2 ∨ y / 8 % 4 = 3 := by omega
        · go_wp2_with (at_builtin; refine wpList_append_own _ rfl _ _ 32 rfl W0.heap.size 44 i0 _ 4 40 Tryd.underlying32 hi hz0 hz1 hz2 rfl (by decide) _ _ _ rfl (own_below hown1 (by (repeat (first | exact Below.refl _ _ | assumption | refine Below.drew ?_ | refine below_drewN ?_ _ | refine Below.alloc ?_ (by first | omega | (simp; done) | (simp; omega)) _ | refine Below.setCell ?_ (by first | omega | (simp; done) | (simp; omega)) _)))) ⟨w1.heap.size + 1 + 1, 0, none⟩ 1 1 [.int .i64 1, str [97], .int .i64 0, .int .i64 (y / 64 % 4)] rfl rfl (by exact cells_g4 (heap_new2 _ _ _ _)) (by simp [Value.oneCell']) (by unfold maxLen; omega) (by omega) (by simp; omega) ?_; intro v' w2 hown' hgrow _)
          have hb3 := (show Below W0.heap.size W0 _ from by (repeat (first | exact Below.refl _ _ | assumption | refine Below.drew ?_ | refine below_drewN ?_ _ | refine Below.alloc ?_ (by first | omega | (simp; done) | (simp; omega)) _ | refine Below.setCell ?_ (by first | omega | (simp; done) | (simp; omega)) _))).grown hgrow (by simp; omega) (fun k hk => (hown1.lt k hk).1)
          obtain ⟨A2, c2, rfl⟩ := own_form hown'
          exact ⟨⟨k + 1, acc ++ [⟨1, [97], 0, y / 64 % 4⟩], A2, c2, by simp, by go_num, by omega, HStep.out _ (by simp [mkY, namesS, textsS, h5, h4]), by simpa [Tok.cells] using hown', hb3⟩, by simp [intOf]; omega⟩
        · go_wp2_with (at_builtin; refine wpList_append_own _ rfl _ _ 32 rfl W0.heap.size 44 i0 _ 4 40 Tryd.underlying32 hi hz0 hz1 hz2 rfl (by decide) _ _ _ rfl (own_below hown1 (by (repeat (first | exact Below.refl _ _ | assumption | refine Below.drew ?_ | refine below_drewN ?_ _ | refine Below.alloc ?_ (by first | omega | (simp; done) | (simp; omega)) _ | refine Below.setCell ?_ (by first | omega | (simp; done) | (simp; omega)) _)))) ⟨w1.heap.size + 1 + 1, 0, none⟩ 1 1 [.int .i64 1, str [102, 114, 111, 109], .int .i64 0, .int .i64 (y / 64 % 4)] rfl rfl (by exact cells_g4 (heap_new2 _ _ _ _)) (by simp [Value.oneCell']) (by unfold maxLen; omega) (by omega) (by simp; omega) ?_; intro v' w2 hown' hgrow _)
          have hb3 := (show Below W0.heap.size W0 _ from by (repeat (first | exact Below.refl _ _ | assumption | refine Below.drew ?_ | refine below_drewN ?_ _ | refine Below.alloc ?_ (by first | omega | (simp; done) | (simp; omega)) _ | refine Below.setCell ?_ (by first | omega | (simp; done) | (simp; omega)) _))).grown hgrow (by simp; omega) (fun k hk => (hown1.lt k hk).1)
          obtain ⟨A2, c2, rfl⟩ := own_form hown'
          exact ⟨⟨k + 1, acc ++ [⟨1, [102, 114, 111, 109], 0, y / 64 % 4⟩], A2, c2, by simp, by go_num, by omega, HStep.out _ (by simp [mkY, namesS, textsS, h5, h4]), by simpa [Tok.cells] using hown', hb3⟩, by simp [intOf]; omega⟩
        · go_wp2_with (at_builtin; refine wpList_append_own _ rfl _ _ 32 rfl W0.heap.size 44 i0 _ 4 40 Tryd.underlying32 hi hz0 hz1 hz2 rfl (by decide) _ _ _ rfl (own_below hown1 (by (repeat (first | exact Below.refl _ _ | assumption | refine Below.drew ?_ | refine below_drewN ?_ _ | refine Below.alloc ?_ (by first | omega | (simp; done) | (simp; omega)) _ | refine Below.setCell ?_ (by first | omega | (simp; done) | (simp; omega)) _)))) ⟨w1.heap.size + 1 + 1, 0, none⟩ 1 1 [.int .i64 1, str [109, 46, 98], .int .i64 0, .int .i64 (y / 64 % 4)] rfl rfl (by exact cells_g4 (heap_new2 _ _ _ _)) (by simp [Value.oneCell']) (by unfold maxLen; omega) (by omega) (by simp; omega) ?_; intro v' w2 hown' hgrow _)
          have hb3 := (show Below W0.heap.size W0 _ from by (repeat (first | exact Below.refl _ _ | assumption | refine Below.drew ?_ | refine below_drewN ?_ _ | refine Below.alloc ?_ (by first | omega | (simp; done) | (simp; omega)) _ | refine Below.setCell ?_ (by first | omega | (simp; done) | (simp; omega)) _))).grown hgrow (by simp; omega) (fun k hk => (hown1.lt k hk).1)
          obtain ⟨A2, c2, rfl⟩ := own_form hown'
          exact ⟨⟨k + 1, acc ++ [⟨1, [109, 46, 98], 0, y / 64 % 4⟩], A2, c2, by simp, by go_num, by omega, HStep.out _ (by simp [mkY, namesS, textsS, h5, h4]), by simpa [Tok.cells] using hown', hb3⟩, by simp [intOf]; omega⟩
        · go_wp2_with (at_builtin; refine wpList_append_own _ rfl _ _ 32 rfl W0.heap.size 44 i0 _ 4 40 Tryd.underlying32 hi hz0 hz1 hz2 rfl (by decide) _ _ _ rfl (own_below hown1 (by (repeat (first | exact Below.refl _ _ | assumption | refine Below.drew ?_ | refine below_drewN ?_ _ | refine Below.alloc ?_ (by first | omega | (simp; done) | (simp; omega)) _ | refine Below.setCell ?_ (by first | omega | (simp; done) | (simp; omega)) _)))) ⟨w1.heap.size + 1 + 1, 0, none⟩ 1 1 [.int .i64 1, str [97, 95, 49], .int .i64 0, .int .i64 (y / 64 % 4)] rfl rfl (by exact cells_g4 (heap_new2 _ _ _ _)) (by simp [Value.oneCell']) (by unfold maxLen; omega) (by omega) (by simp; omega) ?_; intro v' w2 hown' hgrow _)
          have hb3 := (show Below W0.heap.size W0 _ from by (repeat (first | exact Below.refl _ _ | assumption | refine Below.drew ?_ | refine below_drewN ?_ _ | refine Below.alloc ?_ (by first | omega | (simp; done) | (simp; omega)) _ | refine Below.setCell ?_ (by first | omega | (simp; done) | (simp; omega)) _))).grown hgrow (by simp; omega) (fun k hk => (hown1.lt k hk).1)
          obtain ⟨A2, c2, rfl⟩ := own_form hown'
          exact ⟨⟨k + 1, acc ++ [⟨1, [97, 95, 49], 0, y / 64 % 4⟩], A2, c2, by simp, by go_num, by omega, HStep.out _ (by simp [mkY, namesS, textsS, h5, h4]), by simpa [Tok.cells] using hown', hb3⟩, by simp [intOf]; omega⟩
      · clear hcs
        go_wp2_with (at_builtin; refine wpList_append_own _ rfl _ _ 32 rfl W0.heap.size 44 i0 _ 4 40 Tryd.underlying32 hi hz0 hz1 hz2 rfl (by decide) _ _ _ rfl (own_below hown1 (by (repeat (first | exact Below.refl _ _ | assumption | refine Below.drew ?_ | refine below_drewN ?_ _ | refine Below.alloc ?_ (by first | omega | (simp; done) | (simp; omega)) _ | refine Below.setCell ?_ (by first | omega | (simp; done) | (simp; omega)) _)))) ⟨w1.heap.size + 1, 0, none⟩ 1 1 [.int .i64 2, str [], .int .i64 (y / 8), .int .i64 (y / 64 % 4)] rfl rfl (by exact cells_g4 (heap_new1 _ _ _)) (by simp [Value.oneCell']) (by unfold maxLen; omega) (by omega) (by simp; omega) ?_; intro v' w2 hown' hgrow _)
        have hb3 := (show Below W0.heap.size W0 _ from by (repeat (first | exact Below.refl _ _ | assumption | refine Below.drew ?_ | refine below_drewN ?_ _ | refine Below.alloc ?_ (by first | omega | (simp; done) | (simp; omega)) _ | refine Below.setCell ?_ (by first | omega | (simp; done) | (simp; omega)) _))).grown hgrow (by simp; omega) (fun k hk => (hown1.lt k hk).1)
        obtain ⟨A2, c2, rfl⟩ := own_form hown'
        exact ⟨⟨k + 1, acc ++ [⟨2, [], y / 8, y / 64 % 4⟩], A2, c2, by simp, by go_num, by omega, HStep.out _ (by simp [mkY, h5]), by simpa [Tok.cells] using hown', hb3⟩, by simp [intOf]; omega⟩
      · clear hcs
        obtain h4 | h4 | h4 | h4 : y / 8 % 4 = 0 ∨ y / 8 % 4 = 1 ∨ y / 8 % 4 = 2 ∨ y / 8 % 4 = 3 := by omega
        · go_wp2_with (at_builtin; refine wpList_append_own _ rfl _ _ 32 rfl W0.heap.size 44 i0 _ 4 40 Tryd.underlying32 hi hz0 hz1 hz2 rfl (by decide) _ _ _ rfl (own_below hown1 (by (repeat (first | exact Below.refl _ _ | assumption | refine Below.drew ?_ | refine below_drewN ?_ _ | refine Below.alloc ?_ (by first | omega | (simp; done) | (simp; omega)) _ | refine Below.setCell ?_ (by first | omega | (simp; done) | (simp; omega)) _)))) ⟨w1.heap.size + 1 + 1, 0, none⟩ 1 1 [.int .i64 3, str [], .int .i64 0, .int .i64 (y / 64 % 4)] rfl rfl (by exact cells_g4 (heap_new2 _ _ _ _)) (by simp [Value.oneCell']) (by unfold maxLen; omega) (by omega) (by simp; omega) ?_; intro v' w2 hown' hgrow _)
          have hb3 := (show Below W0.heap.size W0 _ from by (repeat (first | exact Below.refl _ _ | assumption | refine Below.drew ?_ | refine below_drewN ?_ _ | refine Below.alloc ?_ (by first | omega | (simp; done) | (simp; omega)) _ | refine Below.setCell ?_ (by first | omega | (simp; done) | (simp; omega)) _))).grown hgrow (by simp; omega) (fun k hk => (hown1.lt k hk).1)
          obtain ⟨A2, c2, rfl⟩ := own_form hown'
          exact ⟨⟨k + 1, acc ++ [⟨3, [], 0, y / 64 % 4⟩], A2, c2, by simp, by go_num, by omega, HStep.out _ (by simp [mkY, namesS, textsS, h5, h4]), by simpa [Tok.cells] using hown', hb3⟩, by simp [intOf]; omega⟩
        · go_wp2_with (at_builtin; refine wpList_append_own _ rfl _ _ 32 rfl W0.heap.size 44 i0 _ 4 40 Tryd.underlying32 hi hz0 hz1 hz2 rfl (by decide) _ _ _ rfl (own_below hown1 (by (repeat (first | exact Below.refl _ _ | assumption | refine Below.drew ?_ | refine below_drewN ?_ _ | refine Below.alloc ?_ (by first | omega | (simp; done) | (simp; omega)) _ | refine Below.setCell ?_ (by first | omega | (simp; done) | (simp; omega)) _)))) ⟨w1.heap.size + 1 + 1, 0, none⟩ 1 1 [.int .i64 3, str [105, 116, 39, 115], .int .i64 0, .int .i64 (y / 64 % 4)] rfl rfl (by exact cells_g4 (heap_new2 _ _ _ _)) (by simp [Value.oneCell']) (by unfold maxLen; omega) (by omega) (by simp; omega) ?_; intro v' w2 hown' hgrow _)
          have hb3 := (show Below W0.heap.size W0 _ from by (repeat (first | exact Below.refl _ _ | assumption | refine Below.drew ?_ | refine below_drewN ?_ _ | refine Below.alloc ?_ (by first | omega | (simp; done) | (simp; omega)) _ | refine Below.setCell ?_ (by first | omega | (simp; done) | (simp; omega)) _))).grown hgrow (by simp; omega) (fun k hk => (hown1.lt k hk).1)
          obtain ⟨A2, c2, rfl⟩ := own_form hown'
          exact ⟨⟨k + 1, acc ++ [⟨3, [105, 116, 39, 115], 0, y / 64 % 4⟩], A2, c2, by simp, by go_num, by omega, HStep.out _ (by simp [mkY, namesS, textsS, h5, h4]), by simpa [Tok.cells] using hown', hb3⟩, by simp [intOf]; omega⟩
        · go_wp2_with (at_builtin; refine wpList_append_own _ rfl _ _ 32 rfl W0.heap.size 44 i0 _ 4 40 Tryd.underlying32 hi hz0 hz1 hz2 rfl (by decide) _ _ _ rfl (own_below hown1 (by (repeat (first | exact Below.refl _ _ | assumption | refine Below.drew ?_ | refine below_drewN ?_ _ | refine Below.alloc ?_ (by first | omega | (simp; done) | (simp; omega)) _ | refine Below.setCell ?_ (by first | omega | (simp; done) | (simp; omega)) _)))) ⟨w1.heap.size + 1 + 1, 0, none⟩ 1 1 [.int .i64 3, str [35], .int .i64 0, .int .i64 (y / 64 % 4)] rfl rfl (by exact cells_g4 (heap_new2 _ _ _ _)) (by simp [Value.oneCell']) (by unfold maxLen; omega) (by omega) (by simp; omega) ?_; intro v' w2 hown' hgrow _)
          have hb3 := (show Below W0.heap.size W0 _ from by (repeat (first | exact Below.refl _ _ | assumption | refine Below.drew ?_ | refine below_drewN ?_ _ | refine Below.alloc ?_ (by first | omega | (simp; done) | (simp; omega)) _ | refine Below.setCell ?_ (by first | omega | (simp; done) | (simp; omega)) _))).grown hgrow (by simp; omega) (fun k hk => (hown1.lt k hk).1)
          obtain ⟨A2, c2, rfl⟩ := own_form hown'
          exact ⟨⟨k + 1, acc ++ [⟨3, [35], 0, y / 64 % 4⟩], A2, c2, by simp, by go_num, by omega, HStep.out _ (by simp [mkY, namesS, textsS, h5, h4]), by simpa [Tok.cells] using hown', hb3⟩, by simp [intOf]; omega⟩
        · go_wp2_with (at_builtin; refine wpList_append_own _ rfl _ _ 32 rfl W0.heap.size 44 i0 _ 4 40 Tryd.underlying32 hi hz0 hz1 hz2 rfl (by decide) _ _ _ rfl (own_below hown1 (by (repeat (first | exact Below.refl _ _ | assumption | refine Below.drew ?_ | refine below_drewN ?_ _ | refine Below.alloc ?_ (by first | omega | (simp; done) | (simp; omega)) _ | refine Below.setCell ?_ (by first | omega | (simp; done) | (simp; omega)) _)))) ⟨w1.heap.size + 1 + 1, 0, none⟩ 1 1 [.int .i64 3, str [10], .int .i64 0, .int .i64 (y / 64 % 4)] rfl rfl (by exact cells_g4 (heap_new2 _ _ _ _)) (by simp [Value.oneCell']) (by unfold maxLen; omega) (by omega) (by simp; omega) ?_; intro v' w2 hown' hgrow _)
          have hb3 := (show Below W0.heap.size W0 _ from by (repeat (first | exact Below.refl _ _ | assumption | refine Below.drew ?_ | refine below_drewN ?_ _ | refine Below.alloc ?_ (by first | omega | (simp; done) | (simp; omega)) _ | refine Below.setCell ?_ (by first | omega | (simp; done) | (simp; omega)) _))).grown hgrow (by simp; omega) (fun k hk => (hown1.lt k hk).1)
          obtain ⟨A2, c2, rfl⟩ := own_form hown'
          exact ⟨⟨k + 1, acc ++ [⟨3, [10], 0, y / 64 % 4⟩], A2, c2, by simp, by go_num, by omega, HStep.out _ (by simp [mkY, namesS, textsS, h5, h4]), by simpa [Tok.cells] using hown', hb3⟩, by simp [intOf]; omega⟩
      · clear hcs
        go_wp2_with (at_builtin; refine wpList_append_own _ rfl _ _ 32 rfl W0.heap.size 44 i0 _ 4 40 Tryd.underlying32 hi hz0 hz1 hz2 rfl (by decide) _ _ _ rfl (own_below hown1 (by (repeat (first | exact Below.refl _ _ | assumption | refine Below.drew ?_ | refine below_drewN ?_ _ | refine Below.alloc ?_ (by first | omega | (simp; done) | (simp; omega)) _ | refine Below.setCell ?_ (by first | omega | (simp; done) | (simp; omega)) _)))) ⟨w1.heap.size + 1, 0, none⟩ 1 1 [.int .i64 4, str [], .int .i64 (y * 7000), .int .i64 (y / 64 % 4)] rfl rfl (by exact cells_g4 (heap_new1 _ _ _)) (by simp [Value.oneCell']) (by unfold maxLen; omega) (by omega) (by simp; omega) ?_; intro v' w2 hown' hgrow _)
        have hb3 := (show Below W0.heap.size W0 _ from by (repeat (first | exact Below.refl _ _ | assumption | refine Below.drew ?_ | refine below_drewN ?_ _ | refine Below.alloc ?_ (by first | omega | (simp; done) | (simp; omega)) _ | refine Below.setCell ?_ (by first | omega | (simp; done) | (simp; omega)) _))).grown hgrow (by simp; omega) (fun k hk => (hown1.lt k hk).1)
        obtain ⟨A2, c2, rfl⟩ := own_form hown'
        exact ⟨⟨k + 1, acc ++ [⟨4, [], y * 7000, y / 64 % 4⟩], A2, c2, by simp, by go_num, by omega, HStep.out _ (by simp [mkY, h5]), by simpa [Tok.cells] using hown', hb3⟩, by simp [intOf]; omega⟩
      · obtain h7 | h7 | h7 | h7 | h7 | h7 | h7 : y / 8 % 7 = 0 ∨ y / 8 % 7 = 1 ∨ y / 8 % 7 = 2 ∨ y / 8 % 7 = 3 ∨ y / 8 % 7 = 4 ∨ y / 8 % 7 = 5 ∨ y / 8 % 7 = 6 := by omega
        · have hc7 : w1.cell? ⟨w.heap.size, 0, none⟩ = some (str [40]) := hcs 0 (by decide)
          clear hcs
          go_wp2_with (at_builtin; refine wpList_append_own _ rfl _ _ 32 rfl W0.heap.size 44 i0 _ 4 40 Tryd.underlying32 hi hz0 hz1 hz2 rfl (by decide) _ _ _ rfl (own_below hown1 (by (repeat (first | exact Below.refl _ _ | assumption | refine Below.drew ?_ | refine below_drewN ?_ _ | refine Below.alloc ?_ (by first | omega | (simp; done) | (simp; omega)) _ | refine Below.setCell ?_ (by first | omega | (simp; done) | (simp; omega)) _)))) ⟨w1.heap.size + 1, 0, none⟩ 1 1 [.int .i64 5, str [40], .int .i64 0, .int .i64 (y / 64 % 4)] rfl rfl (by exact cells_g4 (heap_new1 _ _ _)) (by simp [Value.oneCell']) (by unfold maxLen; omega) (by omega) (by simp; omega) ?_; intro v' w2 hown' hgrow _)
          have hb3 := (show Below W0.heap.size W0 _ from by (repeat (first | exact Below.refl _ _ | assumption | refine Below.drew ?_ | refine below_drewN ?_ _ | refine Below.alloc ?_ (by first | omega | (simp; done) | (simp; omega)) _ | refine Below.setCell ?_ (by first | omega | (simp; done) | (simp; omega)) _))).grown hgrow (by simp; omega) (fun k hk => (hown1.lt k hk).1)
          obtain ⟨A2, c2, rfl⟩ := own_form hown'
          exact ⟨⟨k + 1, acc ++ [⟨5, [40], 0, y / 64 % 4⟩], A2, c2, by simp, by go_num, by omega, HStep.out _ (by simp [mkY, signsS, h5, h7]), by simpa [Tok.cells] using hown', hb3⟩, by simp [intOf]; omega⟩
        · have hc7 : w1.cell? ⟨w.heap.size, 1, none⟩ = some (str [41]) := hcs 1 (by decide)
          clear hcs
          go_wp2_with (at_builtin; refine wpList_append_own _ rfl _ _ 32 rfl W0.heap.size 44 i0 _ 4 40 Tryd.underlying32 hi hz0 hz1 hz2 rfl (by decide) _ _ _ rfl (own_below hown1 (by (repeat (first | exact Below.refl _ _ | assumption | refine Below.drew ?_ | refine below_drewN ?_ _ | refine Below.alloc ?_ (by first | omega | (simp; done) | (simp; omega)) _ | refine Below.setCell ?_ (by first | omega | (simp; done) | (simp; omega)) _)))) ⟨w1.heap.size + 1, 0, none⟩ 1 1 [.int .i64 5, str [41], .int .i64 0, .int .i64 (y / 64 % 4)] rfl rfl (by exact cells_g4 (heap_new1 _ _ _)) (by simp [Value.oneCell']) (by unfold maxLen; omega) (by omega) (by simp; omega) ?_; intro v' w2 hown' hgrow _)
          have hb3 := (show Below W0.heap.size W0 _ from by (repeat (first | exact Below.refl _ _ | assumption | refine Below.drew ?_ | refine below_drewN ?_ _ | refine Below.alloc ?_ (by first | omega | (simp; done) | (simp; omega)) _ | refine Below.setCell ?_ (by first | omega | (simp; done) | (simp; omega)) _))).grown hgrow (by simp; omega) (fun k hk => (hown1.lt k hk).1)
          obtain ⟨A2, c2, rfl⟩ := own_form hown'
          exact ⟨⟨k + 1, acc ++ [⟨5, [41], 0, y / 64 % 4⟩], A2, c2, by simp, by go_num, by omega, HStep.out _ (by simp [mkY, signsS, h5, h7]), by simpa [Tok.cells] using hown', hb3⟩, by simp [intOf]; omega⟩
        · have hc7 : w1.cell? ⟨w.heap.size, 2, none⟩ = some (str [60, 61]) := hcs 2 (by decide)
          clear hcs
          go_wp2_with (at_builtin; refine wpList_append_own _ rfl _ _ 32 rfl W0.heap.size 44 i0 _ 4 40 Tryd.underlying32 hi hz0 hz1 hz2 rfl (by decide) _ _ _ rfl (own_below hown1 (by (repeat (first | exact Below.refl _ _ | assumption | refine Below.drew ?_ | refine below_drewN ?_ _ | refine Below.alloc ?_ (by first | omega | (simp; done) | (simp; omega)) _ | refine Below.setCell ?_ (by first | omega | (simp; done) | (simp; omega)) _)))) ⟨w1.heap.size + 1, 0, none⟩ 1 1 [.int .i64 5, str [60, 61], .int .i64 0, .int .i64 (y / 64 % 4)] rfl rfl (by exact cells_g4 (heap_new1 _ _ _)) (by simp [Value.oneCell']) (by unfold maxLen; omega) (by omega) (by simp; omega) ?_; intro v' w2 hown' hgrow _)
          have hb3 := (show Below W0.heap.size W0 _ from by (repeat (first | exact Below.refl _ _ | assumption | refine Below.drew ?_ | refine below_drewN ?_ _ | refine Below.alloc ?_ (by first | omega | (simp; done) | (simp; omega)) _ | refine Below.setCell ?_ (by first | omega | (simp; done) | (simp; omega)) _))).grown hgrow (by simp; omega) (fun k hk => (hown1.lt k hk).1)
          obtain ⟨A2, c2, rfl⟩ := own_form hown'
          exact ⟨⟨k + 1, acc ++ [⟨5, [60, 61], 0, y / 64 % 4⟩], A2, c2, by simp, by go_num, by omega, HStep.out _ (by simp [mkY, signsS, h5, h7]), by simpa [Tok.cells] using hown', hb3⟩, by simp [intOf]; omega⟩
        · have hc7 : w1.cell? ⟨w.heap.size, 3, none⟩ = some (str [43, 43]) := hcs 3 (by decide)
          clear hcs
          go_wp2_with (at_builtin; refine wpList_append_own _ rfl _ _ 32 rfl W0.heap.size 44 i0 _ 4 40 Tryd.underlying32 hi hz0 hz1 hz2 rfl (by decide) _ _ _ rfl (own_below hown1 (by (repeat (first | exact Below.refl _ _ | assumption | refine Below.drew ?_ | refine below_drewN ?_ _ | refine Below.alloc ?_ (by first | omega | (simp; done) | (simp; omega)) _ | refine Below.setCell ?_ (by first | omega | (simp; done) | (simp; omega)) _)))) ⟨w1.heap.size + 1, 0, none⟩ 1 1 [.int .i64 5, str [43, 43], .int .i64 0, .int .i64 (y / 64 % 4)] rfl rfl (by exact cells_g4 (heap_new1 _ _ _)) (by simp [Value.oneCell']) (by unfold maxLen; omega) (by omega) (by simp; omega) ?_; intro v' w2 hown' hgrow _)
          have hb3 := (show Below W0.heap.size W0 _ from by (repeat (first | exact Below.refl _ _ | assumption | refine Below.drew ?_ | refine below_drewN ?_ _ | refine Below.alloc ?_ (by first | omega | (simp; done) | (simp; omega)) _ | refine Below.setCell ?_ (by first | omega | (simp; done) | (simp; omega)) _))).grown hgrow (by simp; omega) (fun k hk => (hown1.lt k hk).1)
          obtain ⟨A2, c2, rfl⟩ := own_form hown'
          exact ⟨⟨k + 1, acc ++ [⟨5, [43, 43], 0, y / 64 % 4⟩], A2, c2, by simp, by go_num, by omega, HStep.out _ (by simp [mkY, signsS, h5, h7]), by simpa [Tok.cells] using hown', hb3⟩, by simp [intOf]; omega⟩
        · have hc7 : w1.cell? ⟨w.heap.size, 4, none⟩ = some (str [61]) := hcs 4 (by decide)
          clear hcs
          go_wp2_with (at_builtin; refine wpList_append_own _ rfl _ _ 32 rfl W0.heap.size 44 i0 _ 4 40 Tryd.underlying32 hi hz0 hz1 hz2 rfl (by decide) _ _ _ rfl (own_below hown1 (by (repeat (first | exact Below.refl _ _ | assumption | refine Below.drew ?_ | refine below_drewN ?_ _ | refine Below.alloc ?_ (by first | omega | (simp; done) | (simp; omega)) _ | refine Below.setCell ?_ (by first | omega | (simp; done) | (simp; omega)) _)))) ⟨w1.heap.size + 1, 0, none⟩ 1 1 [.int .i64 5, str [61], .int .i64 0, .int .i64 (y / 64 % 4)] rfl rfl (by exact cells_g4 (heap_new1 _ _ _)) (by simp [Value.oneCell']) (by unfold maxLen; omega) (by omega) (by simp; omega) ?_; intro v' w2 hown' hgrow _)
          have hb3 := (show Below W0.heap.size W0 _ from by (repeat (first | exact Below.refl _ _ | assumption | refine Below.drew ?_ | refine below_drewN ?_ _ | refine Below.alloc ?_ (by first | omega | (simp; done) | (simp; omega)) _ | refine Below.setCell ?_ (by first | omega | (simp; done) | (simp; omega)) _))).grown hgrow (by simp; omega) (fun k hk => (hown1.lt k hk).1)
          obtain ⟨A2, c2, rfl⟩ := own_form hown'
          exact ⟨⟨k + 1, acc ++ [⟨5, [61], 0, y / 64 % 4⟩], A2, c2, by simp, by go_num, by omega, HStep.out _ (by simp [mkY, signsS, h5, h7]), by simpa [Tok.cells] using hown', hb3⟩, by simp [intOf]; omega⟩
        · have hc7 : w1.cell? ⟨w.heap.size, 5, none⟩ = some (str [33]) := hcs 5 (by decide)
          clear hcs
          go_wp2_with (at_builtin; refine wpList_append_own _ rfl _ _ 32 rfl W0.heap.size 44 i0 _ 4 40 Tryd.underlying32 hi hz0 hz1 hz2 rfl (by decide) _ _ _ rfl (own_below hown1 (by (repeat (first | exact Below.refl _ _ | assumption | refine Below.drew ?_ | refine below_drewN ?_ _ | refine Below.alloc ?_ (by first | omega | (simp; done) | (simp; omega)) _ | refine Below.setCell ?_ (by first | omega | (simp; done) | (simp; omega)) _)))) ⟨w1.heap.size + 1, 0, none⟩ 1 1 [.int .i64 5, str [33], .int .i64 0, .int .i64 (y / 64 % 4)] rfl rfl (by exact cells_g4 (heap_new1 _ _ _)) (by simp [Value.oneCell']) (by unfold maxLen; omega) (by omega) (by simp; omega) ?_; intro v' w2 hown' hgrow _)
          have hb3 := (show Below W0.heap.size W0 _ from by (repeat (first | exact Below.refl _ _ | assumption | refine Below.drew ?_ | refine below_drewN ?_ _ | refine Below.alloc ?_ (by first | omega | (simp; done) | (simp; omega)) _ | refine Below.setCell ?_ (by first | omega | (simp; done) | (simp; omega)) _))).grown hgrow (by simp; omega) (fun k hk => (hown1.lt k hk).1)
          obtain ⟨A2, c2, rfl⟩ := own_form hown'
          exact ⟨⟨k + 1, acc ++ [⟨5, [33], 0, y / 64 % 4⟩], A2, c2, by simp, by go_num, by omega, HStep.out _ (by simp [mkY, signsS, h5, h7]), by simpa [Tok.cells] using hown', hb3⟩, by simp [intOf]; omega⟩
        · have hc7 : w1.cell? ⟨w.heap.size, 6, none⟩ = some (str [45]) := hcs 6 (by decide)
          clear hcs
          go_wp2_with (at_builtin; refine wpList_append_own _ rfl _ _ 32 rfl W0.heap.size 44 i0 _ 4 40 Tryd.underlying32 hi hz0 hz1 hz2 rfl (by decide) _ _ _ rfl (own_below hown1 (by (repeat (first | exact Below.refl _ _ | assumption | refine Below.drew ?_ | refine below_drewN ?_ _ | refine Below.alloc ?_ (by first | omega | (simp; done) | (simp; omega)) _ | refine Below.setCell ?_ (by first | omega | (simp; done) | (simp; omega)) _)))) ⟨w1.heap.size + 1, 0, none⟩ 1 1 [.int .i64 5, str [45], .int .i64 0, .int .i64 (y / 64 % 4)] rfl rfl (by exact cells_g4 (heap_new1 _ _ _)) (by simp [Value.oneCell']) (by unfold maxLen; omega) (by omega) (by simp; omega) ?_; intro v' w2 hown' hgrow _)
          have hb3 := (show Below W0.heap.size W0 _ from by (repeat (first | exact Below.refl _ _ | assumption | refine Below.drew ?_ | refine below_drewN ?_ _ | refine Below.alloc ?_ (by first | omega | (simp; done) | (simp; omega)) _ | refine Below.setCell ?_ (by first | omega | (simp; done) | (simp; omega)) _))).grown hgrow (by simp; omega) (fun k hk => (hown1.lt k hk).1)
          obtain ⟨A2, c2, rfl⟩ := own_form hown'
          exact ⟨⟨k + 1, acc ++ [⟨5, [45], 0, y / 64 % 4⟩], A2, c2, by simp, by go_num, by omega, HStep.out _ (by simp [mkY, signsS, h5, h7]), by simpa [Tok.cells] using hown', hb3⟩, by simp [intOf]; omega⟩
    · obtain rfl : k = n := by omega
      go_wp2_with (at_builtin; refine wpList_append_own _ rfl _ _ 32 rfl W0.heap.size 44 i0 _ 4 40 Tryd.underlying32 hi hz0 hz1 hz2 rfl (by decide) _ _ _ rfl (own_below hown (by (repeat (first | exact Below.refl _ _ | assumption | refine Below.drew ?_ | refine below_drewN ?_ _ | refine Below.alloc ?_ (by first | omega | (simp; done) | (simp; omega)) _ | refine Below.setCell ?_ (by first | omega | (simp; done) | (simp; omega)) _)))) ⟨wr.heap.size, 0, none⟩ 1 1 [.int .i64 0, str [], .int .i64 0, .int .i64 0] rfl rfl (by exact cells_g4 (heap_alloc_new _ _)) (by simp [Value.oneCell']) (by unfold maxLen; omega) (by omega) (by simp; omega) ?_; intro v' w2 hown' hgrow _)
      have hb3 := (show Below W0.heap.size W0 _ from by (repeat (first | exact Below.refl _ _ | assumption | refine Below.drew ?_ | refine below_drewN ?_ _ | refine Below.alloc ?_ (by first | omega | (simp; done) | (simp; omega)) _ | refine Below.setCell ?_ (by first | omega | (simp; done) | (simp; omega)) _))).grown hgrow (by simp; omega) (fun k hk => (hown.lt k hk).1)
      obtain ⟨A2, c2, rfl⟩ := own_form hown'
      have hown2 : w2.ownsRow W0.heap.size 44 4 (.slice A2 (acc ++ [tok0]).length c2) (acc ++ [tok0]).length (tokCells (acc ++ [tok0])) := by simpa [Tok.cells, tok0] using hown'
      go_wp2
      go_ret
      have he : acc ++ [tok0] = tokensS l k := by rw [HS.out]; rfl
      have hcap := own_cap hown2
      have hta := ToksAt_of_own hown2
      rw [he] at hta
      rw [he, tokensS_len] at hcap
      refine ⟨⟨A2, c2, by have := HS.out; have h2 := toksK_len l k; rw [← this] at h2; rw [h2]; rfl, hta, hcap⟩, hB.trans (hb3.mono hB.size)⟩
end Go.Proofs.YtedjahbieheeoaaDoor
