/- Contracts of the reference's reader of symbols and of its skipper. Contract of the reference's reader of symbols. Contract of the reference's reader of one token. Contract of the splitter, the reference's. -/
import Derived.Test.YtlfedcbihbigoaaGreatDoorCivTE
import Derived.Test.YtlfedcbihbigoaaGreatDoorSplitS
import Derived.Deep.LoopGhost
import Derived.Test.YtlfedcbihbigoaaGreatDoorRefAC
import Derived.Test.YtlfedcbihbigoaaGreatDoorTokF
set_option linter.unusedVariables false
set_option linter.unusedSimpArgs false
namespace Go.Proofs.YtlfedcbihbigoaaGreatDoor
open Go.RowKit

theorem blank_yes' {c : UInt8} (h : blankB c = true) : ((c.toNat : Int) == 32) = true ∨ (((c.toNat : Int) == 32) = false ∧ ((c.toNat : Int) == 9) = true) ∨ (((c.toNat : Int) == 32) = false ∧ ((c.toNat : Int) == 9) = false ∧ ((c.toNat : Int) == 10) = true) := by
  unfold blankB at h; simp at h; simp; omega
theorem blank_no' {c : UInt8} (h : blankB c = false) : ((c.toNat : Int) == 32) = false ∧ ((c.toNat : Int) == 9) = false ∧ ((c.toNat : Int) == 10) = false := by
  unfold blankB at h; simp at h; simp; omega
/-- What the reference's skipper does to the splitter's state. -/
def Skips (s : ByteArray) (i j : Nat) : Prop := i ≤ j ∧ j ≤ s.size ∧ ∀ acc, SplitRel (bs s) i acc → SplitRel (bs s) j acc
theorem Skips.refl {s : ByteArray} {i : Nat} (h : i ≤ s.size) : Skips s i i := ⟨Nat.le_refl _, h, fun _ h => h⟩
theorem Skips.blank {s : ByteArray} {i j : Nat} (h : Skips s i j) (hj : j < s.size) (hb : blankB s[j] = true) : Skips s i (j + 1) :=
  ⟨by have := h.1; omega, hj, fun acc ha => SplitRel_blank (h.2.2 acc ha) hj hb⟩
theorem Skips.line {s : ByteArray} {i j : Nat} (h : Skips s i j) (hj : j < s.size) (hb : blankB s[j] = false) (hc : s[j].toNat = 35) : Skips s i (j + lineL ((bs s).drop j)) := by
  have hle := lineL_le ((bs s).drop j)
  rw [List.length_drop, bs_length] at hle
  exact ⟨by have := h.1; omega, by omega, fun acc ha => (SplitRel_line (h.2.2 acc ha) hj hb hc).1⟩
def Settled (s : ByteArray) (j : Nat) : Prop := ∀ h : j < s.size, blankB s[j] = false ∧ s[j].toNat ≠ 35
theorem lineL_lt : ∀ (l : Bytes) (m : Nat), m < lineL l → ∃ h : m < l.length, (l[m]'h).toNat ≠ 10
  | [], m, h => by simp [lineL] at h
  | c :: l, m, h => by
    unfold lineL at h
    rw [List.takeWhile_cons] at h
    by_cases hc : (c.toNat != 10) = true
    · rw [if_pos hc] at h
      match m with
      | 0 => exact ⟨by simp, by simpa using hc⟩
      | m + 1 =>
        obtain ⟨h1, h2⟩ := lineL_lt l m (by simpa [lineL] using h)
        exact ⟨by simpa using h1, by simpa using h2⟩
    · rw [if_neg hc] at h; simp at h
theorem lineL_stop : ∀ (l : Bytes) (h : lineL l < l.length), (l[lineL l]'h).toNat = 10
  | [], h => by simp [lineL] at h
  | c :: l, h => by
    by_cases hc : (c.toNat != 10) = true
    · have e : lineL (c :: l) = lineL l + 1 := by unfold lineL; rw [List.takeWhile_cons, if_pos hc]; simp
      have h' : lineL l < l.length := by rw [e] at h; simpa using h
      have := lineL_stop l h'
      simpa [e] using this
    · have e : lineL (c :: l) = 0 := by unfold lineL; rw [List.takeWhile_cons, if_neg hc]; simp
      simp only [e]
      simpa using hc
theorem line_in {s : ByteArray} {k m : Nat} (h : m < lineL ((bs s).drop k)) : ∃ h : k + m < s.size, s[k + m].toNat ≠ 10 := by
  obtain ⟨h1, h2⟩ := lineL_lt _ _ h
  rw [List.length_drop, bs_length] at h1
  refine ⟨by omega, ?_⟩
  rw [List.getElem_drop] at h2
  exact h2
theorem line_out {s : ByteArray} {k : Nat} (h : k + lineL ((bs s).drop k) < s.size) : (s[k + lineL ((bs s).drop k)]).toNat = 10 := by
  have := lineL_stop ((bs s).drop k) (by rw [List.length_drop, bs_length]; omega)
  rw [List.getElem_drop] at this
  exact this

set_option maxRecDepth 100000 in
set_option maxHeartbeats 2000000 in
theorem ref7_skip_any (s : ByteArray) (i : Nat) (w : World) (hs : s.size ≤ maxLen) (hi : i ≤ s.size) :
    Calls Tryz.prog 33 #[.string s, .int .i64 i] w fun e w' => (∃ j : Nat, e = .returned (.int .i64 j) ∧ Hid (Skips s i j) ∧ Hid (Settled s j)) ∧ w = w' := by
  unfold maxLen at hs
  go_enter Tryz.func33, Tryz.ntmps33
  go_wp2
  go_loop [1] (fun a => ∃ k : Nat, k ≤ s.size ∧ a = .int .i64 k ∧ Hid (Skips s i k)) (fun a => s.size - (intOf a).toNat)
  case atStart => exact ⟨i, hi, rfl, Skips.refl hi⟩
  case round =>
    obtain ⟨k, hk, rfl, HS⟩ := hrel
    by_cases hlt : k < s.size
    · cases hb : blankB s[k]
      · obtain ⟨b1, b2, b3⟩ := blank_no' hb
        by_cases h35 : s[k].toNat = 35
        · have b4 : ((s[k].toNat : Int) == 35) = true := by simp; omega
          have HS2 := hide (Skips.line HS.out hlt hb h35)
          have hle := HS2.out.2.1
          have hpos : 1 ≤ lineL ((bs s).drop k) := by rw [drop_cons s k hlt]; exact lineL_pos h35
          have HI := hide (fun m (h : m < lineL ((bs s).drop k)) => line_in h)
          have HO := hide (fun (h : k + lineL ((bs s).drop k) < s.size) => line_out h)
          clear hb h35
          generalize lineL ((bs s).drop k) = n at *
          go_wp2
          go_loop [1] (fun a => ∃ m : Nat, m ≤ n ∧ a = .int .i64 (k + m)) (fun a => k + n - (intOf a).toNat)
          case atStart => exact ⟨0, by omega, by simp⟩
          case round =>
            obtain ⟨m, hm, rfl⟩ := hrel
            by_cases hmn : m < n
            · obtain ⟨g1, g2⟩ := HI.out m hmn
              have g3 : ((s[k+m].toNat : Int) != 10) = true := by simp; omega
              clear g2
              go_wp2
              go_round
              case rel => exact ⟨m + 1, by omega, by go_num⟩
              case measure => simp [intOf]; omega
            · obtain rfl : m = n := by omega
              have hx : ¬ k + m < s.size ∨ ∃ h : k + m < s.size, ((s[k+m].toNat : Int) != 10) = false := by
                by_cases h : k + m < s.size
                · exact .inr ⟨h, by have := HO.out h; simp; omega⟩
                · exact .inl h
              rcases hx with hx | ⟨hx, hx2⟩
              all_goals
                go_wp2
                exact ⟨⟨k + m, by omega, by go_num, HS2⟩, by simp [intOf]; omega⟩
        · have b4 : ((s[k].toNat : Int) == 35) = false := by simp; omega
          have HT := hide (show Settled s k from fun _ => ⟨hb, h35⟩)
          clear hb h35
          go_wp2
          go_ret
          exact ⟨⟨k, rfl, HS, HT⟩, rfl⟩
      · have HS2 := hide (Skips.blank HS.out hlt hb)
        rcases blank_yes' hb with b1 | ⟨b1, b2⟩ | ⟨b1, b2, b3⟩
        all_goals
          clear hb
          go_wp2
          exact ⟨⟨k + 1, by omega, by go_num, HS2⟩, by simp [intOf]; omega⟩
    · obtain rfl : k = s.size := by omega
      have HT := hide (show Settled s s.size from fun h => absurd h hlt)
      go_wp2
      go_ret
      exact ⟨⟨s.size, rfl, HS, HT⟩, rfl⟩

end Go.Proofs.YtlfedcbihbigoaaGreatDoor

namespace Go.Proofs.YtlfedcbihbigoaaGreatDoor
open Go.RowKit

/-- The longest symbol that a text begins with, or nothing. -/
def symT (l : Bytes) : Bytes := (symbolsS.find? (fun x => x.isPrefixOf l)).getD []
theorem symT_hit {l x : Bytes} {k : Nat} (hk : k < symbolsS.length) (hn : ∀ j, j < k → (symbolsS.getD j []).isPrefixOf l = false) (hx : symbolsS.getD k [] = x) (h : x.isPrefixOf l = true) : symT l = x := by
  have : symbolsS.find? (fun x => x.isPrefixOf l) = some x := by
    rw [List.find?_eq_some_iff_getElem]
    refine ⟨h, k, hk, ?_, fun j hj => ?_⟩
    · rw [← hx, List.getD, List.getElem?_eq_getElem hk]; rfl
    · have := hn j hj
      rw [List.getD, List.getElem?_eq_getElem (Nat.lt_trans hj hk)] at this
      simpa using this
  unfold symT; rw [this]; rfl
theorem symT_none {l : Bytes} (hn : ∀ j, j < symbolsS.length → (symbolsS.getD j []).isPrefixOf l = false) : symT l = [] := by
  have : symbolsS.find? (fun x => x.isPrefixOf l) = none := by
    rw [List.find?_eq_none]
    intro x hx
    obtain ⟨j, hj, e⟩ := List.mem_iff_getElem.1 hx
    have := hn j hj
    rw [List.getD, List.getElem?_eq_getElem hj, Option.getD_some, e] at this
    simp [this]
  unfold symT; rw [this]; rfl
theorem symS_symT (l : Bytes) : symS l = if symT l = [] then .error 3 else .ok (⟨5, symT l, 0, 0⟩, (symT l).length) := by
  unfold symS symT
  cases h : symbolsS.find? (fun x => x.isPrefixOf l) with
  | none => rfl
  | some x =>
    have h2 := List.mem_of_find?_eq_some h
    have h4 : ∀ y ∈ symbolsS, y ≠ [] := by decide
    simp only [Option.getD_some]
    rw [if_neg (h4 x h2)]

/-- The one-byte symbols, as the reference has them. -/
theorem ones_get : ∀ (k : Nat) (hk : k < (⟨#[40, 41, 44, 59, 58, 124, 61, 43, 45, 42, 47, 37, 60, 62]⟩ : ByteArray).size), symbolsS.getD (4 + k) [] = [(⟨#[40, 41, 44, 59, 58, 124, 61, 43, 45, 42, 47, 37, 60, 62]⟩ : ByteArray)[k]] := by
  have h : ∀ k, k < 14 → symbolsS.getD (4 + k) [] = [[40, 41, 44, 59, 58, 124, 61, 43, 45, 42, 47, 37, 60, 62].getD k 0] := by decide
  intro k hk
  have hk' : k < 14 := hk
  rw [h k hk']
  have e : (⟨#[40, 41, 44, 59, 58, 124, 61, 43, 45, 42, 47, 37, 60, 62]⟩ : ByteArray)[k] = ([40, 41, 44, 59, 58, 124, 61, 43, 45, 42, 47, 37, 60, 62] : Bytes)[k]'hk' := rfl
  rw [e, List.getD, List.getElem?_eq_getElem hk', Option.getD_some]
theorem two_pre {s : ByteArray} {x : Bytes} (hx : x.length = 2) (h2 : 2 ≤ s.size) : x.isPrefixOf (bs s) = ((s.extract 0 2).toList == x) := by
  rw [Bool.eq_iff_iff]
  have := prefix_iff ⟨x.toArray⟩ s
  rw [bs_mk] at this
  rw [this]
  have e : (⟨x.toArray⟩ : ByteArray).size = 2 := by rw [← hx]; rfl
  rw [e, beq_iff_eq, ByteArray.toList_eq]
  constructor
  · rintro ⟨_, h⟩; rw [h]
  · intro h; exact ⟨h2, bs_inj h⟩
theorem two_short {s : ByteArray} {x : Bytes} (hx : x.length = 2) (h2 : ¬ 2 ≤ s.size) : x.isPrefixOf (bs s) = false := by
  cases h : x.isPrefixOf (bs s)
  · rfl
  · have := (List.isPrefixOf_iff_prefix.1 h).length_le
    rw [bs_length] at this; omega
theorem one_pre {s : ByteArray} (h0 : 0 < s.size) (c : UInt8) : [c].isPrefixOf (bs s) = ((s[0].toNat : Int) == (c.toNat : Int)) := by
  have e : bs s = s[0] :: (bs s).drop 1 := by have := drop_cons s 0 h0; simpa using this
  rw [e, Bool.eq_iff_iff]
  simp only [List.isPrefixOf, Bool.and_true, beq_iff_eq]
  constructor
  · rintro rfl; rfl
  · intro h; exact UInt8.toNat_inj.1 (by omega)

set_option maxRecDepth 100000 in
set_option maxHeartbeats 2000000 in
theorem ref7_symbol_any (s : ByteArray) (w : World) (hs : s.size ≤ maxLen) (h0 : 0 < s.size) :
    Calls Tryz.prog 64 #[.string s] w fun e w' => e = .returned (str (symT (bs s))) ∧ Below w.heap.size w w' := by
  unfold maxLen at hs
  have HP2 := hide (fun k (hk : k < 4) => show (symbolsS.getD k []).length = 2 from (by decide : ∀ k, k < 4 → (symbolsS.getD k []).length = 2) k hk)
  go_enter Tryz.func64, Tryz.ntmps64
  go_wp2
  go_loopw [4] (fun i wr => ∃ k : Nat, k ≤ 4 ∧ i = .int .i64 k ∧ Hid (∀ j, j < k → (symbolsS.getD j []).isPrefixOf (bs s) = false) ∧ Below w.heap.size w wr ∧ Hid (∀ j, j < 4 → wr.cell? ⟨w.heap.size, j, none⟩ = some (str (symbolsS.getD j [])))) (fun i _ => 4 - (intOf i).toNat)
  case atStart => exact ⟨0, by omega, rfl, fun j h => absurd h (Nat.not_lt_zero _), (Below.refl _ _).alloc (Nat.le_refl _) _, fun j hj => by
    rw [cell_of_heap (heap_alloc_new w _)]
    match j, hj with
    | 0, _ => rfl
    | 1, _ => rfl
    | 2, _ => rfl
    | 3, _ => rfl⟩
  case round =>
    obtain ⟨k, hk, rfl, HN, hbel, HC⟩ := hrel
    by_cases hlt : k < 4
    · have hx := HC.out k hlt
      have hx2 := HP2.out k hlt
      generalize hxe : symbolsS.getD k [] = x at *
      have HX := hide hxe; clear hxe
      by_cases h2 : 2 ≤ s.size
      · have a2 : decide ((2 : Int) ≤ (s.size : Int)) = true := by simp; omega
        have hpe := two_pre hx2 h2
        clear hx2
        cases hp : ((s.extract 0 2).toList == x)
        · have HN' := hide (show ∀ j, j < k + 1 → (symbolsS.getD j []).isPrefixOf (bs s) = false from fun j h => by
            by_cases e : j = k
            · subst e; rw [HX.out, hpe, hp]
            · exact HN.out j (by omega))
          clear hpe
          go_wp2
          go_big_quiet (fail)
          go_wp2
          exact ⟨⟨k + 1, by omega, by go_num, HN', below_drewN hbel _, HC⟩, by simp [intOf]; omega⟩
        · have HE := hide (show symT (bs s) = x from symT_hit (show k < symbolsS.length by have : symbolsS.length = 18 := rfl; omega) HN.out HX.out (by rw [hpe, hp]))
          clear hpe
          go_wp2
          go_big_quiet (fail)
          go_wp2
          go_ret
          exact ⟨by rw [HE.out]; rfl, below_drewN hbel _⟩
      · have a2 : decide ((2 : Int) ≤ (s.size : Int)) = false := by simp; omega
        have hpe := two_short (x := x) hx2 h2
        clear hx2
        have HN' := hide (show ∀ j, j < k + 1 → (symbolsS.getD j []).isPrefixOf (bs s) = false from fun j h => by
            by_cases e : j = k
            · subst e; rw [HX.out, hpe]
            · exact HN.out j (by omega))
        clear hpe
        go_wp2
        go_big_quiet (fail)
        go_wp2
        exact ⟨⟨k + 1, by omega, by go_num, HN', below_drewN hbel _, HC⟩, by simp [intOf]; omega⟩
    · obtain rfl : k = 4 := by omega
      clear HC
      have a1 : decide ((1 : Int) ≤ (s.size : Int)) = true := by simp; omega
      obtain ⟨wo, rfl⟩ : ∃ wo : World, wo = wr := ⟨_, rfl⟩
      go_wp2
      go_loopw [6] (fun i wr => ∃ k : Nat, k ≤ 14 ∧ i = .int .i64 k ∧ Hid (∀ j, j < 4 + k → (symbolsS.getD j []).isPrefixOf (bs s) = false) ∧ Below w.heap.size w wr) (fun i _ => 14 - (intOf i).toNat)
      case atStart => exact ⟨0, by omega, rfl, HN, hbel⟩
      case round =>
        obtain ⟨k, hk, rfl, HN2, hbel2⟩ := hrel
        by_cases hlt2 : k < 14
        · have hko : k < (⟨#[40, 41, 44, 59, 58, 124, 61, 43, 45, 42, 47, 37, 60, 62]⟩ : ByteArray).size := hlt2
          have HX := hide (ones_get k hko)
          have hpe := one_pre h0 (⟨#[40, 41, 44, 59, 58, 124, 61, 43, 45, 42, 47, 37, 60, 62]⟩ : ByteArray)[k]
          cases hp : ((s[0].toNat : Int) == ((⟨#[40, 41, 44, 59, 58, 124, 61, 43, 45, 42, 47, 37, 60, 62]⟩ : ByteArray)[k].toNat : Int))
          · have HN' := hide (show ∀ j, j < 4 + (k + 1) → (symbolsS.getD j []).isPrefixOf (bs s) = false from fun j h => by
              by_cases e : j = 4 + k
              · subst e; rw [HX.out, hpe, hp]
              · exact HN2.out j (by omega))
            clear hpe
            go_wp2
            go_big_quiet (fail)
            go_wp2
            exact ⟨⟨k + 1, by omega, by go_num, HN', below_drewN hbel2 _⟩, by simp [intOf]; omega⟩
          · have HE := hide (show symT (bs s) = [(⟨#[40, 41, 44, 59, 58, 124, 61, 43, 45, 42, 47, 37, 60, 62]⟩ : ByteArray)[k]] from symT_hit (show 4 + k < symbolsS.length by have : symbolsS.length = 18 := rfl; omega) HN2.out HX.out (by rw [hpe, hp]))
            have HV := hide (show Value.string (s.extract 0 1) = str (symT (bs s)) by
              rw [HE.out, str_take]
              have e : bs s = s[0] :: (bs s).drop 1 := by have := drop_cons s 0 h0; simpa using this
              have e2 : s[0] = (⟨#[40, 41, 44, 59, 58, 124, 61, 43, 45, 42, 47, 37, 60, 62]⟩ : ByteArray)[k] := by
                have : (s[0].toNat : Int) = ((⟨#[40, 41, 44, 59, 58, 124, 61, 43, 45, 42, 47, 37, 60, 62]⟩ : ByteArray)[k].toNat : Int) := by simpa using hp
                exact UInt8.toNat_inj.1 (by omega)
              rw [e, List.take_succ_cons, List.take_zero, e2])
            clear hpe
            go_wp2
            go_big_quiet (fail)
            go_wp2
            go_ret
            exact ⟨by rw [← HV.out]; rfl, below_drewN hbel2 _⟩
        · obtain rfl : k = 14 := by omega
          have HE := hide (show symT (bs s) = [] from symT_none HN2.out)
          go_wp2
          go_ret
          exact ⟨by rw [HE.out]; rfl, hbel2⟩

end Go.Proofs.YtlfedcbihbigoaaGreatDoor

namespace Go.Proofs.YtlfedcbihbigoaaGreatDoor
open Go.RowKit

theorem nameS_shape {l : Bytes} {t : Tok} {n : Nat} (h : nameS l = .ok (t, n)) : t = ⟨1, l.take n, 0, 0⟩ := by
  unfold nameS at h
  split at h
  · cases h
  · split at h
    · split at h
      · cases h
      · injection h with h; injection h with h1 h2; rw [← h1, ← h2]
    · injection h with h; injection h with h1 h2; rw [← h1, ← h2]
theorem intS_shape {l : Bytes} {t : Tok} {n : Nat} (h : intS l = .ok (t, n)) : t = ⟨2, [], t.num, 0⟩ := by
  rw [intS_eq] at h
  split at h
  · cases h
  · split at h
    · cases h
    · injection h with h; injection h with h1 h2; rw [← h1]
theorem litS_shape {l : Bytes} {t : Tok} {n : Nat} (h : litS l = .ok (t, n)) : t = ⟨3, t.text, 0, 0⟩ := by
  unfold litS at h
  split at h
  · cases h
  · split at h
    · cases h
    · injection h with h; injection h with h1 h2; rw [← h1]
theorem nameS_le {l : Bytes} {t : Tok} {n : Nat} (h : nameS l = .ok (t, n)) : n ≤ l.length := by
  have h2 := partL_le l
  have h3 := partL_le (l.drop (partL l + 1))
  unfold nameS at h
  split at h
  · cases h
  · split at h
    · rename_i hd
      have hd' : partL l + 1 < l.length := by
        unfold dotB at hd
        by_cases h : partL l + 1 < l.length
        · exact h
        · rw [dif_neg h] at hd; cases hd
      rw [List.length_drop] at h3
      split at h
      · cases h
      · injection h with h; injection h with _ h; omega
    · injection h with h; injection h with _ h; omega

set_option maxRecDepth 100000 in
set_option maxHeartbeats 4000000 in
theorem ref7_next_any (s : ByteArray) (w : World) (hs : s.size ≤ 65536) (h0 : 0 < s.size) :
    Calls Tryz.prog 34 #[.string s] w fun e w' => OneRes (oneS (bs s)) e ∧ Below w.heap.size w w' := by
  have hr := oneS_eq s h0
  have hsm : s.size ≤ maxLen := by unfold maxLen; omega
  have hsm' : s.size ≤ 140737488355328 := by omega
  by_cases c1 : letB s[0] = true
  · cases hn : nameS (bs s) with
    | error er =>
      have H := hide (show oneS (bs s) = .error er by rw [hr, if_pos c1, hn])
      have HN := hide hn
      clear hr hn
      go_enter Tryz.func34, Tryz.ntmps34
      go_wp2_with (first
        | (go_at_call 58; refine (ref7_letter_any _ _).mono ?_; rintro e w' ⟨rfl, rfl⟩))
      refine (ref7_name_any _ _ hsm).mono ?_
      rintro e w1 ⟨hres, rfl⟩
      rw [HN.out] at hres
      obtain ⟨hc0, rfl⟩ := hres
      have HC := hide hc0; clear hc0
      go_wp2
      refine bodyPost_ret (v := .tuple #[.agg #[.int .i64 1, .string (s.extract 0 0), .int .i64 0, .int .i64 0], .int .i64 0, .int .i64 er]) (by simp [results, Tryz.results34, go_sem]) rfl ⟨by rw [str_take]; exact OneRes_err H.out HC.out _ _ _ _ _, ?_⟩
      (repeat (first | exact Below.refl _ _ | assumption | refine Below.drew ?_ | refine below_drewN ?_ _ | refine Below.alloc ?_ (by first | omega | simp <;> omega) _ | refine Below.setCell ?_ (by first | omega | simp <;> omega) _))
    | ok x =>
      obtain ⟨t, n⟩ := x
      have H := hide (show oneS (bs s) = .ok (t, n) by rw [hr, if_pos c1, hn])
      have HN := hide hn
      have HT := hide (nameS_shape hn)
      have hle := nameS_le hn
      rw [bs_length] at hle
      clear hr hn
      go_enter Tryz.func34, Tryz.ntmps34
      go_wp2_with (first
        | (go_at_call 58; refine (ref7_letter_any _ _).mono ?_; rintro e w' ⟨rfl, rfl⟩))
      refine (ref7_name_any _ _ hsm).mono ?_
      rintro e w1 ⟨hres, rfl⟩
      rw [HN.out] at hres
      obtain rfl : e = .returned (.tuple #[.int .i64 (n : Nat), .int .i64 0]) := hres
      go_wp2
      refine bodyPost_ret (v := .tuple #[.agg #[.int .i64 1, .string (s.extract 0 n), .int .i64 0, .int .i64 0], .int .i64 n, .int .i64 0]) (by simp [results, Tryz.results34, go_sem]) rfl ⟨OneRes_ok H.out (by rw [HT.out, str_take]) rfl, ?_⟩
      (repeat (first | exact Below.refl _ _ | assumption | refine Below.drew ?_ | refine below_drewN ?_ _ | refine Below.alloc ?_ (by first | omega | simp <;> omega) _ | refine Below.setCell ?_ (by first | omega | simp <;> omega) _))
  rw [if_neg c1] at hr
  have c1' : letB s[0] = false := by simpa using c1
  clear c1
  by_cases c2 : digB s[0] = true
  · cases hn : intS (bs s) with
    | error er =>
      have H := hide (show oneS (bs s) = .error er by rw [hr, if_pos c2, hn])
      have HN := hide hn
      clear hr hn
      go_enter Tryz.func34, Tryz.ntmps34
      go_wp2_with (first
        | (go_at_call 58; refine (ref7_letter_any _ _).mono ?_; rintro e w' ⟨rfl, rfl⟩)
        | (go_at_call 60; refine (ref7_digit_any _ _).mono ?_; rintro e w' ⟨rfl, rfl⟩))
      refine (ref7_integer_any _ _ hsm h0).mono ?_
      rintro e w1 ⟨hres, rfl⟩
      rw [HN.out] at hres
      obtain ⟨hc0, rfl⟩ := hres
      have HC := hide hc0; clear hc0
      go_wp2
      refine bodyPost_ret (v := .tuple #[.agg #[.int .i64 2, str [], .int .i64 0, .int .i64 0], .int .i64 0, .int .i64 er]) (by simp [results, Tryz.results34, go_sem]) rfl ⟨OneRes_err H.out HC.out _ _ _ _ _, ?_⟩
      (repeat (first | exact Below.refl _ _ | assumption | refine Below.drew ?_ | refine below_drewN ?_ _ | refine Below.alloc ?_ (by first | omega | simp <;> omega) _ | refine Below.setCell ?_ (by first | omega | simp <;> omega) _))
    | ok x =>
      obtain ⟨t, n⟩ := x
      have H := hide (show oneS (bs s) = .ok (t, n) by rw [hr, if_pos c2, hn])
      have HN := hide hn
      have HT := hide (intS_shape hn)
      clear hr hn
      go_enter Tryz.func34, Tryz.ntmps34
      go_wp2_with (first
        | (go_at_call 58; refine (ref7_letter_any _ _).mono ?_; rintro e w' ⟨rfl, rfl⟩)
        | (go_at_call 60; refine (ref7_digit_any _ _).mono ?_; rintro e w' ⟨rfl, rfl⟩))
      refine (ref7_integer_any _ _ hsm h0).mono ?_
      rintro e w1 ⟨hres, rfl⟩
      rw [HN.out] at hres
      obtain rfl : e = .returned (.tuple #[.int .i64 t.num, .int .i64 (n : Nat), .int .i64 0]) := hres
      go_wp2
      refine bodyPost_ret (v := .tuple #[.agg #[.int .i64 2, str [], .int .i64 t.num, .int .i64 0], .int .i64 n, .int .i64 0]) (by simp [results, Tryz.results34, go_sem]) rfl ⟨OneRes_ok H.out (by rw [HT.out]) rfl, ?_⟩
      (repeat (first | exact Below.refl _ _ | assumption | refine Below.drew ?_ | refine below_drewN ?_ _ | refine Below.alloc ?_ (by first | omega | simp <;> omega) _ | refine Below.setCell ?_ (by first | omega | simp <;> omega) _))
  rw [if_neg c2] at hr
  have c2' : digB s[0] = false := by simpa using c2
  clear c2
  by_cases c3 : s[0].toNat = 39
  · have c3' : ((s[0].toNat : Int) == 39) = true := by simp; omega
    cases hn : litS (bs s) with
    | error er =>
      have H := hide (show oneS (bs s) = .error er by rw [hr, if_pos c3, hn])
      have HN := hide hn
      clear hr hn c3
      go_enter Tryz.func34, Tryz.ntmps34
      go_wp2_with (first
        | (go_at_call 58; refine (ref7_letter_any _ _).mono ?_; rintro e w' ⟨rfl, rfl⟩)
        | (go_at_call 60; refine (ref7_digit_any _ _).mono ?_; rintro e w' ⟨rfl, rfl⟩))
      refine (ref7_text_any _ _ hsm' h0).mono ?_
      rintro e w1 ⟨hres, hb⟩
      rw [HN.out] at hres
      obtain ⟨hc0, rfl⟩ := hres
      have HC := hide hc0; clear hc0
      obtain ⟨k0, k1, k2, k3, ⟨f0, f1, f2, f3⟩, hz, hb0⟩ := box4 (by simpa using hb)
      clear hb
      go_wp2
      refine bodyPost_ret (v := .tuple #[.agg #[.int .i64 3, str [], .int .i64 0, .int .i64 0], .int .i64 0, .int .i64 er]) (by simp [results, Tryz.results34, go_sem, k0, k1, k2, k3]) rfl ⟨OneRes_err H.out HC.out _ _ _ _ _, ?_⟩
      (repeat (first | exact Below.refl _ _ | assumption | refine Below.drew ?_ | refine below_drewN ?_ _ | refine Below.alloc ?_ (by first | omega | simp <;> omega) _ | refine Below.setCell ?_ (by first | omega | simp <;> omega) _))
    | ok x =>
      obtain ⟨t, n⟩ := x
      have H := hide (show oneS (bs s) = .ok (t, n) by rw [hr, if_pos c3, hn])
      have HN := hide hn
      have HT := hide (litS_shape hn)
      clear hr hn c3
      go_enter Tryz.func34, Tryz.ntmps34
      go_wp2_with (first
        | (go_at_call 58; refine (ref7_letter_any _ _).mono ?_; rintro e w' ⟨rfl, rfl⟩)
        | (go_at_call 60; refine (ref7_digit_any _ _).mono ?_; rintro e w' ⟨rfl, rfl⟩))
      refine (ref7_text_any _ _ hsm' h0).mono ?_
      rintro e w1 ⟨hres, hb⟩
      rw [HN.out] at hres
      obtain rfl : e = .returned (.tuple #[str t.text, .int .i64 (n : Nat), .int .i64 0]) := hres
      obtain ⟨k0, k1, k2, k3, ⟨f0, f1, f2, f3⟩, hz, hb0⟩ := box4 (by simpa using hb)
      clear hb
      go_wp2
      refine bodyPost_ret (v := .tuple #[.agg #[.int .i64 3, str t.text, .int .i64 0, .int .i64 0], .int .i64 n, .int .i64 0]) (by simp [results, Tryz.results34, go_sem, k0, k1, k2, k3]) rfl ⟨OneRes_ok H.out (by rw [HT.out]) rfl, ?_⟩
      (repeat (first | exact Below.refl _ _ | assumption | refine Below.drew ?_ | refine below_drewN ?_ _ | refine Below.alloc ?_ (by first | omega | simp <;> omega) _ | refine Below.setCell ?_ (by first | omega | simp <;> omega) _))
  rw [if_neg c3] at hr
  have c3' : ((s[0].toNat : Int) == 39) = false := by simp; omega
  clear c3
  by_cases c4 : s[0].toNat = 64
  · have c4' : ((s[0].toNat : Int) == 64) = true := by simp; omega
    have H := hide (show oneS (bs s) = atS (bs s) by rw [hr, if_pos c4])
    clear hr c4
    by_cases h17 : s.size < 17
    · have HE := hide (show oneS (bs s) = .error 3 by rw [H.out, atS, if_pos (by rw [bs_length]; exact h17)])
      go_enter Tryz.func34, Tryz.ntmps34
      go_wp2_with (first
        | (go_at_call 58; refine (ref7_letter_any _ _).mono ?_; rintro e w' ⟨rfl, rfl⟩)
        | (go_at_call 60; refine (ref7_digit_any _ _).mono ?_; rintro e w' ⟨rfl, rfl⟩))
      refine bodyPost_ret (v := .tuple #[.agg #[.int .i64 0, str [], .int .i64 0, .int .i64 0], .int .i64 0, .int .i64 3]) (by simp [results, Tryz.results34, go_sem]) rfl ⟨OneRes_err HE.out (by decide) _ _ _ _ _, ?_⟩
      (repeat (first | exact Below.refl _ _ | assumption | refine Below.drew ?_ | refine below_drewN ?_ _ | refine Below.alloc ?_ (by first | omega | simp <;> omega) _ | refine Below.setCell ?_ (by first | omega | simp <;> omega) _))
    · go_enter Tryz.func34, Tryz.ntmps34
      go_wp2_with (first
        | (go_at_call 58; refine (ref7_letter_any _ _).mono ?_; rintro e w' ⟨rfl, rfl⟩)
        | (go_at_call 60; refine (ref7_digit_any _ _).mono ?_; rintro e w' ⟨rfl, rfl⟩))
      refine (ref3_Parse_any _ _ (by unfold maxLen; simp; omega)).mono ?_
      rintro e w1 ⟨hres, hb⟩
      obtain ⟨n, c, rfl⟩ := TimeRes_shape hres
      rw [bs_extract] at hres
      have HR := hide (TimeRes_at (by rw [bs_length]; exact h17) hres); clear hres
      obtain ⟨k0, k1, k2, k3, ⟨f0, f1, f2, f3⟩, hz, hb0⟩ := box4 (by simpa using hb)
      clear hb
      go_wp2
      refine bodyPost_ret (v := .tuple #[.agg #[.int .i64 4, str [], .int .i64 n, .int .i64 0], .int .i64 17, .int .i64 c]) (by simp [results, Tryz.results34, go_sem, k0, k1, k2, k3]) rfl ⟨by rw [H.out]; exact HR.out, ?_⟩
      (repeat (first | exact Below.refl _ _ | assumption | refine Below.drew ?_ | refine below_drewN ?_ _ | refine Below.alloc ?_ (by first | omega | simp <;> omega) _ | refine Below.setCell ?_ (by first | omega | simp <;> omega) _))
  rw [if_neg c4] at hr
  have c4' : ((s[0].toNat : Int) == 64) = false := by simp; omega
  have hr2 := hr.trans (symS_symT (bs s))
  clear c4 hr
  have HS := hide (fun W => ref7_symbol_any s W hsm h0)
  generalize symT (bs s) = y at *
  cases hy : y with
  | nil =>
    have HE := hide (show oneS (bs s) = .error 3 by rw [hr2, if_pos hy])
    subst hy
    clear hr2
    go_enter Tryz.func34, Tryz.ntmps34
    go_wp2_with (first
      | (go_at_call 58; refine (ref7_letter_any _ _).mono ?_; rintro e w' ⟨rfl, rfl⟩)
      | (go_at_call 60; refine (ref7_digit_any _ _).mono ?_; rintro e w' ⟨rfl, rfl⟩))
    refine (HS.out _).mono ?_
    rintro e w1 ⟨rfl, hb⟩
    obtain ⟨k0, k1, k2, k3, ⟨f0, f1, f2, f3⟩, hz, hb0⟩ := box4 (by simpa using hb)
    clear hb
    go_wp2
    refine bodyPost_ret (v := .tuple #[.agg #[.int .i64 0, str [], .int .i64 0, .int .i64 0], .int .i64 0, .int .i64 3]) (by simp [results, Tryz.results34, go_sem, k0, k1, k2, k3]) rfl ⟨OneRes_err HE.out (by decide) _ _ _ _ _, ?_⟩
    (repeat (first | exact Below.refl _ _ | assumption | refine Below.drew ?_ | refine below_drewN ?_ _ | refine Below.alloc ?_ (by first | omega | simp <;> omega) _ | refine Below.setCell ?_ (by first | omega | simp <;> omega) _))
  | cons c r =>
    have HE := hide (show oneS (bs s) = .ok (⟨5, y, 0, 0⟩, y.length) by rw [hr2, if_neg (by rw [hy]; exact List.cons_ne_nil _ _)])
    have hne : y.isEmpty = false := by rw [hy]; rfl
    have hne2 : (y == []) = false := by rw [hy]; rfl
    clear hr2 hy
    go_enter Tryz.func34, Tryz.ntmps34
    go_wp2_with (first
      | (go_at_call 58; refine (ref7_letter_any _ _).mono ?_; rintro e w' ⟨rfl, rfl⟩)
      | (go_at_call 60; refine (ref7_digit_any _ _).mono ?_; rintro e w' ⟨rfl, rfl⟩))
    refine (HS.out _).mono ?_
    rintro e w1 ⟨rfl, hb⟩
    obtain ⟨k0, k1, k2, k3, ⟨f0, f1, f2, f3⟩, hz, hb0⟩ := box4 (by simpa using hb)
    clear hb
    go_wp2
    refine bodyPost_ret (v := .tuple #[.agg #[.int .i64 5, str y, .int .i64 0, .int .i64 0], .int .i64 y.length, .int .i64 0]) (by simp [results, Tryz.results34, go_sem, k0, k1, k2, k3]) rfl ⟨OneRes_ok HE.out rfl rfl, ?_⟩
    (repeat (first | exact Below.refl _ _ | assumption | refine Below.drew ?_ | refine below_drewN ?_ _ | refine Below.alloc ?_ (by first | omega | simp <;> omega) _ | refine Below.setCell ?_ (by first | omega | simp <;> omega) _))

end Go.Proofs.YtlfedcbihbigoaaGreatDoor

namespace Go.Proofs.YtlfedcbihbigoaaGreatDoor
open Go.RowKit

set_option maxRecDepth 100000 in
set_option maxHeartbeats 4000000 in
theorem ref7_Split_any (s : ByteArray) (w : World) (hs : s.size ≤ maxLen) :
    Calls Tryz.prog 16 #[.string s] w fun e w' => SplitRes w w' (splitS (bs s)) e ∧ Below w.heap.size w w' := by
  have hsm := hs
  unfold maxLen at hs
  by_cases hbig : 65536 < s.size
  · have H := hide (show splitS (bs s) = .error (0, 2) by unfold splitS; rw [bs_length, if_pos hbig])
    go_enter Tryz.func16, Tryz.ntmps16
    go_wp2
    go_ret3
    refine ⟨?_, Below.refl _ _⟩
    rw [H.out]; exact rfl
  · have H := hide (show splitS (bs s) = splitGo (bs s).length (bs s) 0 by unfold splitS; rw [bs_length, if_neg hbig])
    obtain ⟨i0, hi, hz0, hz1, hz2⟩ := info_parts Tryz.info_tok
    go_enter Tryz.func16, Tryz.ntmps16
    go_wp2_with fail
    refine (ref7_skip_any s 0 _ hsm (Nat.zero_le _)).mono ?_
    rintro e w' ⟨⟨j0, rfl, HK, HT⟩, rfl⟩
    go_wp2
    go_loopw [2, 5] (fun v i wr => ∃ (k : Nat) (acc : List Tok) (A : Option Addr) (c : Nat), v = .slice A acc.length c ∧ i = .int .i64 k ∧ Hid (SplitRel (bs s) k acc) ∧ Hid (Settled s k) ∧
        wr.ownsRow w.heap.size 70 4 (.slice A acc.length c) acc.length (tokCells acc) ∧ Below w.heap.size w wr) (fun _ i _ => s.size - (intOf i).toNat)
    case atStart => exact ⟨j0, [], none, 0, rfl, rfl, HK.out.2.2 _ (SplitRel_start _), HT, own_nil _ _ _ _, Below.refl _ _⟩
    case round =>
      obtain ⟨k, acc, A, c, rfl, rfl, HR, HST, hown, hbel⟩ := hrel
      obtain ⟨hk, hacc⟩ := SplitRel_le HR.out
      have hsz := hbel.size
      by_cases hlt : k < s.size
      · obtain ⟨hb, h35⟩ := HST.out hlt
        cases ho : oneS ((bs s).drop k) with
        | error er =>
          have HE := hide (show splitS (bs s) = _ by rw [H.out, SplitRel_err HR.out hlt hb h35 ho])
          have HO := hide ho
          clear ho hb h35
          go_wp2_with fail
          refine (ref7_next_any (s.extract k s.size) _ (by simp; omega) (by simp; omega)).mono ?_
          rintro e w1 ⟨hres, hb1⟩
          rw [bs_from, HO.out] at hres
          obtain ⟨hc0, t, m, rfl⟩ := hres
          have hc1 : ((er : Int) != 0) = true := by simpa using hc0
          clear hc0
          have hsz1 := hb1.size
          have hb2 := below_then hbel hsz hb1
          go_wp2
          go_ret3
          refine ⟨?_, by (repeat (first | exact Below.refl _ _ | assumption | refine Below.drew ?_ | refine below_drewN ?_ _ | refine Below.alloc ?_ (by first | omega | simp <;> omega) _ | refine Below.setCell ?_ (by first | omega | simp <;> omega) _))⟩
          rw [HE.out]
          rfl
        | ok x =>
          obtain ⟨t, m⟩ := x
          obtain ⟨hr2, hp1, hp2⟩ := SplitRel_tok HR.out hlt hb h35 ho
          have HR2 := hide hr2
          have HO := hide ho
          clear ho hb h35 hr2
          go_wp2_with fail
          refine (ref7_next_any (s.extract k s.size) _ (by simp; omega) (by simp; omega)).mono ?_
          rintro e w1 ⟨hres, hb1⟩
          rw [bs_from, HO.out] at hres
          obtain rfl : e = .returned (.tuple #[t.agg, .int .i64 (m : Nat), .int .i64 0]) := hres
          have hsz1 := hb1.size
          have hb2 := below_then hbel hsz hb1
          have hown1 := own_below hown hb1
          go_wp2_with (at_builtin; refine wpList_append_own _ rfl _ _ 34 rfl w.heap.size 70 i0 _ 4 40 Tryz.underlying34 hi hz0 hz1 hz2 rfl (by decide) _ _ _ rfl ((hown1.alloc _).alloc _) ⟨w1.heap.size + 1, 0, none⟩ 1 1 [.int .i64 t.kind, str t.text, .int .i64 t.num, .int .i64 k] rfl rfl (by have h := cells_new4 (w1.alloc (.cells #[.int .i64 t.kind, str t.text, .int .i64 t.num, .int .i64 k] 70)) (.int .i64 t.kind) (str t.text) (.int .i64 t.num) (.int .i64 k) 70; simpa using h) (by simp [Value.oneCell']) (by unfold maxLen; omega) (by omega) (by simp; omega) ?_; intro v' w2 hown' hgrow _)
          have hb3 := ((hb2.alloc (by omega) _).alloc (by simp; omega) _).grown hgrow (by simp; omega) (fun k hk => (hown1.lt k hk).1)
          obtain ⟨A', c', hv⟩ := own_form hown'
          have HV := hide hv; clear hv
          rw [show ((k : Int) + (m : Int)) = ((k + m : Nat) : Int) from by simp]
          refine (ref7_skip_any s (k + m) _ hsm (by omega)).mono ?_
          rintro e w' ⟨⟨j, rfl, HK2, HT2⟩, rfl⟩
          go_wp2
          have hj := HK2.out.1
          have hj2 := HK2.out.2.1
          have hown2 := hown'
          rw [HV.out] at hown2
          exact ⟨⟨j, acc ++ [{ t with off := k }], A', c', by rw [HV.out]; simp, rfl, HK2.out.2.2 _ HR2.out, HT2, by simpa [Tok.cells] using hown2, hb3⟩, by simp [intOf]; omega⟩
      · obtain rfl : k = s.size := by omega
        have HE := hide (show splitS (bs s) = _ by rw [H.out, SplitRel_end HR.out])
        go_wp2_with (at_builtin; refine wpList_append_own _ rfl _ _ 34 rfl w.heap.size 70 i0 _ 4 40 Tryz.underlying34 hi hz0 hz1 hz2 rfl (by decide) _ _ _ rfl (hown.alloc _) ⟨wr.heap.size, 0, none⟩ 1 1 [.int .i64 0, .string ⟨#[]⟩, .int .i64 0, .int .i64 s.size] rfl rfl (cells_new4 _ _ _ _ _ _) (by simp [Value.oneCell']) (by unfold maxLen; omega) (by omega) (by simp; omega) ?_; intro v' w2 hown' hgrow _)
        have hb2 := push_below hbel hown hgrow (by omega)
        obtain ⟨A', c', hv⟩ := own_form hown'
        go_ret3
        refine ⟨?_, hb2⟩
        rw [HE.out]
        subst hv
        exact ⟨A', c', by simp, by simpa [Tok.cells] using hown'⟩

end Go.Proofs.YtlfedcbihbigoaaGreatDoor
