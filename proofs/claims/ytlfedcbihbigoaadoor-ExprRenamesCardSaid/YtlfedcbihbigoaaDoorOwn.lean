/- Rows of bytes and of tokens that a call makes itself: small laws. No program in sight. -/
import Derived.Test.YtlfedcbihbigoaaDoorSpec
import Derived.Laws.BytesArg
set_option linter.unusedVariables false
set_option linter.unusedSimpArgs false
namespace Go.Proofs.YtlfedcbihbigoaaDoor
open Go.RowKit

abbrev byteV (c : UInt8) : Value := .int .u8 (c.toNat : Int)

theorem own_form {w : World} {base e size n : Nat} {v : Value} {xs : List Value} (h : w.ownsRow base e size v n xs) : ∃ A c, v = .slice A n c := by
  rcases h.2 with ⟨rfl, rfl⟩ | ⟨g, cap, cur, rfl, _⟩
  · exact ⟨none, 0, rfl⟩
  · exact ⟨_, _, rfl⟩
theorem own_nil (w : World) (base e size : Nat) : w.ownsRow base e size (.slice none 0 0) 0 [] := ⟨by simp, .inl ⟨rfl, rfl⟩⟩

theorem strOf_bytes (b : Bytes) : strOfNums (b.map fun c => (c.toNat : Int)) = ⟨b.toArray⟩ := by
  unfold strOfNums
  congr 2
  rw [List.map_map]
  conv => rhs; rw [← List.map_id b]
  apply List.map_congr_left
  intro c _
  simp

theorem run_conv_own {P : Program} {w : World} {src e dst : TypeId} (hs : P.underlying src = some (.slice e)) (he : P.underlying e = some (.int .u8)) (hd : P.underlying dst = some .string)
    {base : Nat} {A : Option Addr} {n c : Nat} {b : Bytes} (h : w.ownsRow base e 1 (.slice A n c) b.length (b.map byteV)) :
    (convert src dst (.slice A n c)).run P w = .ok (str b) w := by
  rcases h.2 with ⟨hv, hn⟩ | ⟨g, cap, cur, hv, hg, hh, hnc, hcap, hsz, htk⟩
  · injection hv with h1 h2 h3
    subst h1
    have hb : b = [] := List.eq_nil_of_length_eq_zero hn
    subst hb
    rw [run_convert_bytes_nil w src e hs he _ _ dst hd]
    rfl
  · have hv' := hv
    injection hv with h1 h2 h3
    subst h1
    subst h2 h3
    have hcell := fun j hj => World.ownsRow.cellAt (h) j hj
    rw [run_convert_bytes_arg w src e hs he g 0 b.length c (b.map fun c => (c.toNat : Int)) (by simp) (fun i hi => ?_) dst hd, strOf_bytes]
    rw [Nat.zero_add, hcell i (by omega)]
    simp [List.getD, List.getElem?_eq_getElem hi]

theorem heap_of_below {B : Nat} {w w' : World} {o : Obj} (h : Below B (w.alloc o) w') (hB : w.heap.size < B) : w'.heap[w.heap.size]? = some o := by
  rw [h.block _ hB]; exact heap_alloc_new w o
theorem cell_of_heap {w : World} {g : Nat} {cs : Array Value} {t : TypeId} (h : w.heap[g]? = some (.cells cs t)) (i : Nat) : w.cell? ⟨g, i, none⟩ = cs[i]? := by simp [World.cell?, h]
theorem free_of_heap {w : World} {g : Nat} {cs : Array Value} {t : TypeId} (h : w.heap[g]? = some (.cells cs t)) (i : Nat) : w.frozen? ⟨g, i, none⟩ = false := by simp [World.frozen?, h]
theorem lt_of_heap {w : World} {g : Nat} {o : Obj} (h : w.heap[g]? = some o) : g < w.heap.size := by
  rcases Nat.lt_or_ge g w.heap.size with h1 | h1
  · exact h1
  · rw [Array.getElem?_eq_none h1] at h; cases h

theorem push_below {B e size n c : Nat} {W0 wr w1 : World} {A : Option Addr} {xs : List Value} {o : Obj} (hbel : Below B W0 wr) (hown : wr.ownsRow B e size (.slice A n c) n xs)
    (hgrow : (wr.alloc o).grownBy w1 (Value.slice A n c).ownBlock) (hB : B ≤ wr.heap.size) : Below B W0 w1 :=
  (hbel.alloc hB o).grown hgrow (by simp; omega) (fun k hk => (hown.lt k hk).1)

/-! ### literals -/
def LitRel (l : Bytes) (k : Nat) (b : Bytes) : Prop := litGo (l.drop 1) = (litGo (l.drop k)).map (fun x => (b ++ x.1, x.2 + (k - 1))) ∧ b.length + 1 ≤ k ∧ 1 ≤ k
theorem LitRel_start (l : Bytes) : LitRel l 1 [] := ⟨by simp, by simp, by simp⟩
theorem drop_cons (s : ByteArray) (k : Nat) (h : k < s.size) : (bs s).drop k = s[k] :: (bs s).drop (k + 1) := by
  rw [List.drop_eq_getElem_cons (by rw [bs_length]; exact h)]; rfl
theorem litGo_plain (c : UInt8) (r : Bytes) (h : c.toNat ≠ 39) : litGo (c :: r) = (litGo r).map fun x => (c :: x.1, x.2 + 1) := by
  cases r with
  | nil => simp [litGo, h]
  | cons d r => rw [litGo, if_neg h]
theorem LitRel_plain {s : ByteArray} {k : Nat} {b : Bytes} (h : LitRel (bs s) k b) (hk : k < s.size) (hc : s[k].toNat ≠ 39) : LitRel (bs s) (k + 1) (b ++ [s[k]]) := by
  obtain ⟨h1, h2, h3⟩ := h
  refine ⟨?_, by simp; omega, by omega⟩
  rw [h1, drop_cons s k hk, litGo_plain _ _ hc]
  cases litGo ((bs s).drop (k + 1)) with
  | none => rfl
  | some x => simp; omega
theorem LitRel_pair {s : ByteArray} {k : Nat} {b : Bytes} (h : LitRel (bs s) k b) (hk : k + 1 < s.size) (hc : s[k].toNat = 39) (hd : s[k+1].toNat = 39) : LitRel (bs s) (k + 2) (b ++ [s[k+1]]) := by
  obtain ⟨h1, h2, h3⟩ := h
  refine ⟨?_, by simp; omega, by omega⟩
  rw [h1, drop_cons s k (by omega), drop_cons s (k + 1) hk, litGo, if_pos hc, if_pos hd]
  cases litGo ((bs s).drop (k + 1 + 1)) with
  | none => rfl
  | some x => simp; omega
theorem LitRel_close {s : ByteArray} {k : Nat} {b : Bytes} (h : LitRel (bs s) k b) (hk : k < s.size) (hc : s[k].toNat = 39) (hd : ∀ h : k + 1 < s.size, s[k+1].toNat ≠ 39) :
    litS (bs s) = if 64 < b.length then .error 2 else .ok (⟨3, b, 0, 0⟩, k + 1) := by
  obtain ⟨h1, h2, h3⟩ := h
  have e : litGo ((bs s).drop k) = some ([], 1) := by
    rw [drop_cons s k hk]
    by_cases h4 : k + 1 < s.size
    · rw [drop_cons s (k + 1) h4, litGo, if_pos hc, if_neg (hd h4)]
    · have : (bs s).drop (k + 1) = [] := List.drop_eq_nil_of_le (by rw [bs_length]; omega)
      rw [this, litGo, if_pos hc]
  unfold litS
  rw [h1, e]
  simp
  rw [show 1 + (k - 1) + 1 = k + 1 by omega]
theorem LitRel_end {s : ByteArray} {k : Nat} {b : Bytes} (h : LitRel (bs s) k b) (hk : ¬ k < s.size) : litS (bs s) = .error 3 := by
  obtain ⟨h1, h2, h3⟩ := h
  have : (bs s).drop k = [] := List.drop_eq_nil_of_le (by rw [bs_length]; omega)
  unfold litS
  rw [h1, this]
  rfl

end Go.Proofs.YtlfedcbihbigoaaDoor
