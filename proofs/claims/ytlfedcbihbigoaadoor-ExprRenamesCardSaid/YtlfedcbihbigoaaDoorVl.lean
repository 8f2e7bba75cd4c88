/- Plain functions and contracts: the values; value.Valid, ref1.Valid. -/
import Derived.Test.YtlfedcbihbigoaaDoorValD
set_option linter.unusedVariables false
set_option linter.unusedSimpArgs false
namespace Go.Proofs.YtlfedcbihbigoaaDoor
open Go.RowKit
structure Vl where
  kind : Int
  num : Int
  text : Bytes
def Vl.cells (v : Vl) : List Value := [.int .i64 v.kind, .int .i64 v.num, str v.text]
abbrev Vl.agg (v : Vl) : Value := .agg #[.int .i64 v.kind, .int .i64 v.num, str v.text]
def vl0 : Vl := ⟨0, 0, []⟩
def validV (k n : Int) (x : Bytes) : Bool :=
  if k = 0 then n == 0 && x.isEmpty
  else if k = 1 then (n == 0 || n == 1) && x.isEmpty
  else if k = 2 then (decide (-1073741824 ≤ n) && decide (n ≤ 1073741824)) && x.isEmpty
  else if k = 3 then n == 0 && decide (x.length ≤ 64)
  else if k = 4 then (decide (0 ≤ n) && decide (n ≤ 575999999)) && x.isEmpty
  else false
theorem validV_cases {k n : Int} {x : Bytes} (h : validV k n x = true) : (k = 0 ∧ n = 0 ∧ x = []) ∨ (k = 1 ∧ (n = 0 ∨ n = 1) ∧ x = []) ∨ (k = 2 ∧ -1073741824 ≤ n ∧ n ≤ 1073741824 ∧ x = []) ∨ (k = 3 ∧ n = 0 ∧ x.length ≤ 64) ∨ (k = 4 ∧ 0 ≤ n ∧ n ≤ 575999999 ∧ x = []) := by
  unfold validV at h
  split at h
  · simp_all
  split at h
  · simp_all
  split at h
  · simp_all
  split at h
  · simp_all
  split at h
  · simp_all
  · cases h
set_option maxHeartbeats 4000000 in
theorem ref1_Valid_any (k n : Int) (s : ByteArray) (w : World) : Calls Tryd.prog 42 #[.agg #[.int .i64 k, .int .i64 n, .string s]] w fun e w' => e = .returned (.bool (validV k n (bs s))) ∧ Below w.heap.size w w' := by
  have HL := hide (bs_len s)
  have HB := hide (bs_toList s)
  go_enter Tryd.func42, Tryd.ntmps42
  go_wp2
  all_goals
    go_ret
    refine ⟨ret_bool ?_, by first | assumption | (repeat (first | exact Below.refl _ _ | assumption | refine Below.drew ?_ | refine below_drewN ?_ _ | refine Below.alloc ?_ (by first | omega | (simp; done) | (simp; omega)) _ | refine Below.setCell ?_ (by first | omega | (simp; done) | (simp; omega)) _))⟩
    rw [HB.out]
    have hlen := HL.out
    have hbs := HB.out
    clear HL HB
    simp_all [validV] <;> omega
set_option maxHeartbeats 4000000 in
theorem value_Valid_any (k n : Int) (s : ByteArray) (w : World) : Calls Tryd.prog 37 #[.agg #[.int .i64 k, .int .i64 n, .string s]] w fun e w' => e = .returned (.bool (validV k n (bs s))) ∧ Below w.heap.size w w' := by
  have HL := hide (bs_len s)
  have HB := hide (bs_toList s)
  go_enter Tryd.func37, Tryd.ntmps37
  go_wp2
  all_goals
    go_ret
    refine ⟨ret_bool ?_, by first | assumption | (repeat (first | exact Below.refl _ _ | assumption | refine Below.drew ?_ | refine below_drewN ?_ _ | refine Below.alloc ?_ (by first | omega | (simp; done) | (simp; omega)) _ | refine Below.setCell ?_ (by first | omega | (simp; done) | (simp; omega)) _))⟩
    rw [HB.out]
    have hlen := HL.out
    have hbs := HB.out
    clear HL HB
    simp_all [validV] <;> omega
end Go.Proofs.YtlfedcbihbigoaaDoor
