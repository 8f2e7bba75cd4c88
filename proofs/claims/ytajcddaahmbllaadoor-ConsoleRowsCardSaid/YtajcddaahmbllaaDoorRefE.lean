/- Contract of the reference's reader of symbols. -/
import Derived.Test.YtajcddaahmbllaaDoorTokE
set_option linter.unusedVariables false
set_option linter.unusedSimpArgs false
namespace Go.Proofs.YtajcddaahmbllaaDoor
open Go.RowKit

/-- The longest symbol that a text begins with, or nothing. -/
def symT (l : Bytes) : Bytes := (symbolsS.find? (fun x => x.isPrefixOf l)).getD []
theorem symT_hit {l x : Bytes} {k : Nat} (hk : k < symbolsS.length) (hn : ∀ j, j < k → (symbolsS.getD j []).isPrefixOf l = false) (hx : symbolsS.getD k [] = x) (h : x.isPrefixOf l = true) : symT l = x := by
  have : symbolsS.find? (fun x => x.isPrefixOf l) = some x := by
    rw [List.find?_eq_some_iff_getElem]
    refine ⟨h, k, hk, ?_, fun j hj => ?_⟩
    · rw [← hx, List.getD, List.getElem?_eq_getElem hk]; rfl
    · have := hn j hj
      rw [List.getD, List.getElem?_eq_getElem (Nat.lt_trans hj hk)] at this
      simpa using this
  unfold symT; rw [this]; rfl
theorem symT_none {l : Bytes} (hn : ∀ j, j < symbolsS.length → (symbolsS.getD j []).isPrefixOf l = false) : symT l = [] := by
  have : symbolsS.find? (fun x => x.isPrefixOf l) = none := by
    rw [List.find?_eq_none]
    intro x hx
    obtain ⟨j, hj, e⟩ := List.mem_iff_getElem.1 hx
    have := hn j hj
    rw [List.getD, List.getElem?_eq_getElem hj, Option.getD_some, e] at this
    simp [this]
  unfold symT; rw [this]; rfl
theorem symS_symT (l : Bytes) : symS l = if symT l = [] then .error 3 else .ok (⟨5, symT l, 0, 0⟩, (symT l).length) := by
  unfold symS symT
  cases h : symbolsS.find? (fun x => x.isPrefixOf l) with
  | none => rfl
  | some x =>
    have h2 := List.mem_of_find?_eq_some h
    have h4 : ∀ y ∈ symbolsS, y ≠ [] := by decide
    simp only [Option.getD_some]
    rw [if_neg (h4 x h2)]

/-- The one-byte symbols, as the reference has them. -/
theorem ones_get : ∀ (k : Nat) (hk : k < (⟨#[40, 41, 44, 59, 58, 124, 61, 43, 45, 42, 47, 37, 60, 62]⟩ : ByteArray).size), symbolsS.getD (4 + k) [] = [(⟨#[40, 41, 44, 59, 58, 124, 61, 43, 45, 42, 47, 37, 60, 62]⟩ : ByteArray)[k]] := by
  have h : ∀ k, k < 14 → symbolsS.getD (4 + k) [] = [[40, 41, 44, 59, 58, 124, 61, 43, 45, 42, 47, 37, 60, 62].getD k 0] := by decide
  intro k hk
  have hk' : k < 14 := hk
  rw [h k hk']
  have e : (⟨#[40, 41, 44, 59, 58, 124, 61, 43, 45, 42, 47, 37, 60, 62]⟩ : ByteArray)[k] = ([40, 41, 44, 59, 58, 124, 61, 43, 45, 42, 47, 37, 60, 62] : Bytes)[k]'hk' := rfl
  rw [e, List.getD, List.getElem?_eq_getElem hk', Option.getD_some]
theorem two_pre {s : ByteArray} {x : Bytes} (hx : x.length = 2) (h2 : 2 ≤ s.size) : x.isPrefixOf (bs s) = ((s.extract 0 2).toList == x) := by
  rw [Bool.eq_iff_iff]
  have := prefix_iff ⟨x.toArray⟩ s
  rw [bs_mk] at this
  rw [this]
  have e : (⟨x.toArray⟩ : ByteArray).size = 2 := by rw [← hx]; rfl
  rw [e, beq_iff_eq, ByteArray.toList_eq]
  constructor
  · rintro ⟨_, h⟩; rw [h]
  · intro h; exact ⟨h2, bs_inj h⟩
theorem two_short {s : ByteArray} {x : Bytes} (hx : x.length = 2) (h2 : ¬ 2 ≤ s.size) : x.isPrefixOf (bs s) = false := by
  cases h : x.isPrefixOf (bs s)
  · rfl
  · have := (List.isPrefixOf_iff_prefix.1 h).length_le
    rw [bs_length] at this; omega
theorem one_pre {s : ByteArray} (h0 : 0 < s.size) (c : UInt8) : [c].isPrefixOf (bs s) = ((s[0].toNat : Int) == (c.toNat : Int)) := by
  have e : bs s = s[0] :: (bs s).drop 1 := by have := drop_cons s 0 h0; simpa using this
  rw [e, Bool.eq_iff_iff]
  simp only [List.isPrefixOf, Bool.and_true, beq_iff_eq]
  constructor
  · rintro rfl; rfl
  · intro h; exact UInt8.toNat_inj.1 (by omega)

set_option maxRecDepth 100000 in
set_option maxHeartbeats 2000000 in
theorem ref7_symbol_any (s : ByteArray) (w : World) (hs : s.size ≤ maxLen) (h0 : 0 < s.size) :
    Calls Tryd.prog 63 #[.string s] w fun e w' => e = .returned (str (symT (bs s))) ∧ Below w.heap.size w w' := by
  unfold maxLen at hs
  have HP2 := hide (fun k (hk : k < 4) => show (symbolsS.getD k []).length = 2 from (by decide : ∀ k, k < 4 → (symbolsS.getD k []).length = 2) k hk)
  go_enter Tryd.func63, Tryd.ntmps63
  go_wp2
  go_loopw [4] (fun i wr => ∃ k : Nat, k ≤ 4 ∧ i = .int .i64 k ∧ Hid (∀ j, j < k → (symbolsS.getD j []).isPrefixOf (bs s) = false) ∧ Below w.heap.size w wr ∧ Hid (∀ j, j < 4 → wr.cell? ⟨w.heap.size, j, none⟩ = some (str (symbolsS.getD j [])))) (fun i _ => 4 - (intOf i).toNat)
  case atStart => exact ⟨0, by omega, rfl, fun j h => absurd h (Nat.not_lt_zero _), (Below.refl _ _).alloc (Nat.le_refl _) _, fun j hj => by
    rw [cell_of_heap (heap_alloc_new w _)]
    match j, hj with
    | 0, _ => rfl
    | 1, _ => rfl
    | 2, _ => rfl
    | 3, _ => rfl⟩
  case round =>
    obtain ⟨k, hk, rfl, HN, hbel, HC⟩ := hrel
    by_cases hlt : k < 4
    · have hx := HC.out k hlt
      have hx2 := HP2.out k hlt
      generalize hxe : symbolsS.getD k [] = x at *
      have HX := hide hxe; clear hxe
      by_cases h2 : 2 ≤ s.size
      · have a2 : decide ((2 : Int) ≤ (s.size : Int)) = true := by simp; omega
        have hpe := two_pre hx2 h2
        clear hx2
        cases hp : ((s.extract 0 2).toList == x)
        · have HN' := hide (show ∀ j, j < k + 1 → (symbolsS.getD j []).isPrefixOf (bs s) = false from fun j h => by
            by_cases e : j = k
            · subst e; rw [HX.out, hpe, hp]
            · exact HN.out j (by omega))
          clear hpe
          go_wp2
          go_big_quiet (fail)
          go_wp2
          exact ⟨⟨k + 1, by omega, by go_num, HN', below_drewN hbel _, HC⟩, by simp [intOf]; omega⟩
        · have HE := hide (show symT (bs s) = x from symT_hit (show k < symbolsS.length by have : symbolsS.length = 18 := rfl; omega) HN.out HX.out (by rw [hpe, hp]))
          clear hpe
          go_wp2
          go_big_quiet (fail)
          go_wp2
          go_ret
          exact ⟨by rw [HE.out]; rfl, below_drewN hbel _⟩
      · have a2 : decide ((2 : Int) ≤ (s.size : Int)) = false := by simp; omega
        have hpe := two_short (x := x) hx2 h2
        clear hx2
        have HN' := hide (show ∀ j, j < k + 1 → (symbolsS.getD j []).isPrefixOf (bs s) = false from fun j h => by
            by_cases e : j = k
            · subst e; rw [HX.out, hpe]
            · exact HN.out j (by omega))
        clear hpe
        go_wp2
        go_big_quiet (fail)
        go_wp2
        exact ⟨⟨k + 1, by omega, by go_num, HN', below_drewN hbel _, HC⟩, by simp [intOf]; omega⟩
    · obtain rfl : k = 4 := by omega
      clear HC
      have a1 : decide ((1 : Int) ≤ (s.size : Int)) = true := by simp; omega
      obtain ⟨wo, rfl⟩ : ∃ wo : World, wo = wr := ⟨_, rfl⟩
      go_wp2
      go_loopw [6] (fun i wr => ∃ k : Nat, k ≤ 14 ∧ i = .int .i64 k ∧ Hid (∀ j, j < 4 + k → (symbolsS.getD j []).isPrefixOf (bs s) = false) ∧ Below w.heap.size w wr) (fun i _ => 14 - (intOf i).toNat)
      case atStart => exact ⟨0, by omega, rfl, HN, hbel⟩
      case round =>
        obtain ⟨k, hk, rfl, HN2, hbel2⟩ := hrel
        by_cases hlt2 : k < 14
        · have hko : k < (⟨#[40, 41, 44, 59, 58, 124, 61, 43, 45, 42, 47, 37, 60, 62]⟩ : ByteArray).size := hlt2
          have HX := hide (ones_get k hko)
          have hpe := one_pre h0 (⟨#[40, 41, 44, 59, 58, 124, 61, 43, 45, 42, 47, 37, 60, 62]⟩ : ByteArray)[k]
          cases hp : ((s[0].toNat : Int) == ((⟨#[40, 41, 44, 59, 58, 124, 61, 43, 45, 42, 47, 37, 60, 62]⟩ : ByteArray)[k].toNat : Int))
          · have HN' := hide (show ∀ j, j < 4 + (k + 1) → (symbolsS.getD j []).isPrefixOf (bs s) = false from fun j h => by
              by_cases e : j = 4 + k
              · subst e; rw [HX.out, hpe, hp]
              · exact HN2.out j (by omega))
            clear hpe
            go_wp2
            go_big_quiet (fail)
            go_wp2
            exact ⟨⟨k + 1, by omega, by go_num, HN', below_drewN hbel2 _⟩, by simp [intOf]; omega⟩
          · have HE := hide (show symT (bs s) = [(⟨#[40, 41, 44, 59, 58, 124, 61, 43, 45, 42, 47, 37, 60, 62]⟩ : ByteArray)[k]] from symT_hit (show 4 + k < symbolsS.length by have : symbolsS.length = 18 := rfl; omega) HN2.out HX.out (by rw [hpe, hp]))
            have HV := hide (show Value.string (s.extract 0 1) = str (symT (bs s)) by
              rw [HE.out, str_take]
              have e : bs s = s[0] :: (bs s).drop 1 := by have := drop_cons s 0 h0; simpa using this
              have e2 : s[0] = (⟨#[40, 41, 44, 59, 58, 124, 61, 43, 45, 42, 47, 37, 60, 62]⟩ : ByteArray)[k] := by
                have : (s[0].toNat : Int) = ((⟨#[40, 41, 44, 59, 58, 124, 61, 43, 45, 42, 47, 37, 60, 62]⟩ : ByteArray)[k].toNat : Int) := by simpa using hp
                exact UInt8.toNat_inj.1 (by omega)
              rw [e, List.take_succ_cons, List.take_zero, e2])
            clear hpe
            go_wp2
            go_big_quiet (fail)
            go_wp2
            go_ret
            exact ⟨by rw [← HV.out]; rfl, below_drewN hbel2 _⟩
        · obtain rfl : k = 14 := by omega
          have HE := hide (show symT (bs s) = [] from symT_none HN2.out)
          go_wp2
          go_ret
          exact ⟨by rw [HE.out]; rfl, hbel2⟩

end Go.Proofs.YtajcddaahmbllaaDoor
