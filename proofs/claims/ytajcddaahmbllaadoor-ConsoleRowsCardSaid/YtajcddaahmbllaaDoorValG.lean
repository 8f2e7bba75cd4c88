/- Contract: law7.tokens: some list of n+1 tokens with short texts. -/
import Derived.Test.YtajcddaahmbllaaDoorValF
import Derived.Test.YtajcddaahmbllaaDoorBaseB
set_option linter.unusedVariables false
set_option linter.unusedSimpArgs false
namespace Go.Proofs.YtajcddaahmbllaaDoor
open Go.RowKit
theorem and_3 (i : Int) : bits .and .i64 i 3 = i % 4 := by
  show IntKind.i64.wrap ((BitVec.ofInt 64 i &&& BitVec.ofInt 64 3).toNat : Int) = _
  have h : (BitVec.ofInt 64 (3 : Int)).toNat = 2 ^ 2 - 1 := by decide
  rw [BitVec.toNat_and, h, Nat.and_two_pow_sub_one_eq_mod, IntKind.wrap_i64]
  simp only [BitVec.toNat_ofInt]
  omega
theorem lAt_le (l : List Int) (i : Int) : lAt l i ≤ 131072 := by
  unfold lAt
  split
  · omega
  · rename_i h
    have h1 : i % 65536 / (l.length : Int) ≤ i % 65536 := Int.ediv_le_self _ (by omega)
    omega
def shortT (ts : List Tok) : Prop := ∀ j (h : j < ts.length), ts[j].text.length ≤ 100
theorem shortT_nil : shortT [] := fun j h => absurd h (Nat.not_lt_zero _)
theorem shortT_snoc {ts : List Tok} {t : Tok} (h : shortT ts) (ht : t.text.length ≤ 100) : shortT (ts ++ [t]) := by
  intro j hj
  by_cases e : j < ts.length
  · rw [List.getElem_append_left e]; exact h j e
  · rw [List.getElem_append_right (by omega)]; simp; exact ht
def namesS : List Bytes := [[97], [102, 114, 111, 109], [109, 46, 98], [97, 95, 49]]
def textsS : List Bytes := [[], [105, 116, 39, 115], [35], [10]]
def signsS : List Bytes := [[40], [41], [60, 61], [43, 43], [61], [33], [45]]
/-- The token that a number stands for. -/
def mkY (y : Int) : Tok :=
  if y % 5 = 0 then ⟨1, namesS.getD (y / 8 % 4).toNat [], 0, y / 64 % 4⟩
  else if y % 5 = 1 then ⟨2, [], y / 8, y / 64 % 4⟩
  else if y % 5 = 2 then ⟨3, textsS.getD (y / 8 % 4).toNat [], 0, y / 64 % 4⟩
  else if y % 5 = 3 then ⟨4, [], y * 7000, y / 64 % 4⟩
  else ⟨5, signsS.getD (y / 8 % 7).toNat [], 0, y / 64 % 4⟩
def toksK (l : List Int) (k : Nat) : List Tok := (List.range k).map fun (i : Nat) => mkY (lAt l i)
def tokensS (l : List Int) (n : Nat) : List Tok := toksK l n ++ [tok0]
theorem toksK_succ (l : List Int) (k : Nat) : toksK l (k + 1) = toksK l k ++ [mkY (lAt l k)] := by unfold toksK; rw [List.range_succ, List.map_append]; rfl
theorem toksK_len (l : List Int) (k : Nat) : (toksK l k).length = k := by unfold toksK; simp
theorem tokensS_len (l : List Int) (k : Nat) : (tokensS l k).length = k + 1 := by unfold tokensS; simp [toksK_len]
theorem getD_short (ls : List Bytes) (h : ∀ x ∈ ls, x.length ≤ 100) (k : Nat) : (ls.getD k []).length ≤ 100 := by
  by_cases hk : k < ls.length
  · rw [List.getD_eq_getElem?_getD, List.getElem?_eq_getElem hk]; exact h _ (List.getElem_mem hk)
  · rw [List.getD_eq_getElem?_getD, List.getElem?_eq_none (by omega)]; simp
theorem mkY_short (y : Int) : (mkY y).text.length ≤ 100 := by
  unfold mkY
  split
  · exact getD_short namesS (by decide) _
  split
  · simp
  split
  · exact getD_short textsS (by decide) _
  split
  · simp
  · exact getD_short signsS (by decide) _
theorem shortT_of {ts : List Tok} (h : ∀ t ∈ ts, t.text.length ≤ 100) : shortT ts := fun j hj => h _ (List.getElem_mem hj)
theorem tokensS_short (l : List Int) (n : Nat) : shortT (tokensS l n) := shortT_of fun t ht => by
  unfold tokensS toksK at ht
  rw [List.mem_append, List.mem_map] at ht
  rcases ht with ⟨i, _, rfl⟩ | ht
  · exact mkY_short _
  · rw [List.mem_singleton] at ht; subst ht; simp [tok0]
def TokensRes (l : List Int) (n : Nat) (w' : World) (e : Ending) : Prop :=
  ∃ (A : Option Addr) (c : Nat), e = .returned (.slice A (n + 1) c) ∧ ToksAt w' A (tokensS l n) ∧ n + 1 ≤ c
theorem cells_g4 {W : World} {B : Nat} {a b c d : Value} {t : TypeId} (h : W.heap[B]? = some (.cells #[a, b, c, d] t)) : ∀ (j : Nat) (u : Value), [a, b, c, d][j]? = some u → W.cell? ((⟨B, 0, none⟩ : Addr).add j) = some u := by
  intro j u hu
  have e : (⟨B, 0, none⟩ : Addr).add j = ⟨B, j, none⟩ := by unfold Addr.add; split <;> simp_all
  rw [e, cell_of_heap h]
  simpa using hu
theorem own_cap {w : World} {base e size n c : Nat} {A : Option Addr} {xs : List Value} (h : w.ownsRow base e size (.slice A n c) n xs) : n ≤ c := by
  rcases h.2 with ⟨hv, hn⟩ | ⟨g, cap, cur, hv, hg, hh, hnc, _⟩
  · omega
  · injection hv with h1 h2 h3
    omega
theorem heap_new1 (w : World) (o1 o2 : Obj) : ((w.alloc o1).alloc o2).heap[w.heap.size + 1]? = some o2 := by
  have := heap_alloc_new (w.alloc o1) o2; simpa using this
theorem heap_new2 (w : World) (o1 o2 o3 : Obj) : (((w.alloc o1).alloc o2).alloc o3).heap[w.heap.size + 1 + 1]? = some o3 := by
  have := heap_alloc_new ((w.alloc o1).alloc o2) o3; simpa using this
end Go.Proofs.YtajcddaahmbllaaDoor
