/- Contract: token.Join. -/
import Derived.Test.YtajcddaahmbllaaDoorJoi
set_option linter.unusedVariables false
set_option linter.unusedSimpArgs false
namespace Go.Proofs.YtajcddaahmbllaaDoor
open Go.RowKit
theorem Tryd.info_str : (Tryd.prog.info? 9).map (fun i => (i.zero, i.size, i.bytes)) = some (some (.string ⟨#[]⟩), 1, 16) := by kernel_rfl
noncomputable def textCells (ts : List Tok) (k : Nat) : List Value := (ts.take k).map fun t => str t.written
theorem textCells_succ (ts : List Tok) (k : Nat) (h : k < ts.length) : textCells ts (k + 1) = textCells ts k ++ [str ts[k].written] := by
  unfold textCells
  rw [List.take_succ_eq_append_getElem h, List.map_append]; rfl
theorem textCells_len (ts : List Tok) (k : Nat) (h : k ≤ ts.length) : (textCells ts k).length = k := by unfold textCells; simp; omega
set_option maxHeartbeats 4000000 in
theorem join_any (A : Option Addr) (c m : Nat) (ts : List Tok) (w : World) (base : Nat) (hm : m ≤ ts.length) (hm2 : m ≤ 1000000) (hown : w.ownsRow base 9 1 (.slice A m c) m (textCells ts m)) (hp : (partS ts m).length ≤ 131000000) :
    Calls Tryd.prog 14 #[.slice A m c, .string ⟨#[32]⟩] w fun e w' => e = .returned (str (partS ts m)) ∧ Below w.heap.size w w' := by
  by_cases h0 : m = 0
  · subst h0
    refine (Tryd.strings_Join_none A c ⟨#[32]⟩ w).mono fun e w' ⟨he, hw⟩ => ⟨he, hw ▸ Below.refl _ _⟩
  · rcases hown.2 with ⟨hv, hn⟩ | ⟨g, cap, cur, hv, hg, hh, hnc, hcap, hsz, htk⟩
    · omega
    · have hv' := hv
      injection hv with h1 h2 h3
      subst h1 h3
      have hcell : ∀ j, j < m → w.cell? ⟨g, j, none⟩ = (textCells ts m)[j]? := fun j hj => by
        have := World.ownsRow.cellAt hown j (by omega)
        exact this
      have hx : ((ts.take m).map fun t => (⟨t.written.toArray⟩ : ByteArray)).length = m := by simp; omega
      have hj : Lib.join (((ts.take m).map fun t => (⟨t.written.toArray⟩ : ByteArray)).map (·.data.toList)) [32] = partS ts m := by
        unfold partS Lib.join
        rw [List.map_map]; rfl
      have key := Tryd.strings_Join g 0 c ((ts.take m).map fun t => (⟨t.written.toArray⟩ : ByteArray)) ⟨#[32]⟩ w (fun j x hx => ?_) (lt_of_heap hh) (by omega) (by omega) (by
        show (Lib.join _ [32]).length ≤ _
        rw [hj]; omega)
      · rw [hx] at key
        refine key.mono fun e w' ⟨he, hb⟩ => ⟨?_, hb⟩
        rw [he]
        exact congrArg (fun l => Ending.returned (str l)) hj
      · have hjm : j < m := by
          have := (List.getElem?_eq_some_iff.1 hx).1
          simp at this; omega
        rw [Nat.zero_add, hcell j hjm]
        unfold textCells
        rw [List.getElem?_map] at hx ⊢
        cases ht : (ts.take m)[j]? with
        | none => rw [ht] at hx; simp at hx
        | some t => rw [ht] at hx; simp at hx; subst hx; rfl
def JoinRel (m : Nat) (ts : List Tok) (w wr : World) (v i : Value) : Prop := ∃ (k : Nat) (A : Option Addr) (c : Nat), v = .slice A k c ∧ i = .int .i64 k ∧ k ≤ m ∧ wr.ownsRow w.heap.size 9 1 (.slice A k c) k (textCells ts k) ∧ Below w.heap.size w wr
end Go.Proofs.YtajcddaahmbllaaDoor
