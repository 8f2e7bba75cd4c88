/- Contracts: console.literal, ref42.literal. -/
import Derived.Test.YtajcddaahmbllaaDoorConS
import Derived.KernelRfl
set_option linter.unusedVariables false
set_option linter.unusedSimpArgs false
namespace Go.Proofs.YtajcddaahmbllaaDoor
open Go.RowKit
def LitRes (r : Option (Vl × Nat)) (e : Ending) : Prop :=
  match r with
  | some x => e = .returned (.tuple #[x.1.agg, .int .i64 (x.2 : Nat)])
  | none => e = .returned (.tuple #[vl0.agg, .int .i64 0])
def LitRes2 (at' : Nat) (r : Option (Vl × Nat)) (e : Ending) : Prop :=
  match r with
  | some x => e = .returned (.tuple #[x.1.agg, .int .i64 ((at' + x.2 : Nat) : Int), .bool true])
  | none => ∃ (v : Vl) (n : Int), e = .returned (.tuple #[v.agg, .int .i64 n, .bool false])
set_option maxRecDepth 100000 in
set_option maxHeartbeats 4000000 in
theorem console_literal_two (g off m c : Nat) (t u : Tok) (r : List Tok) (w : World) (hm : 2 ≤ m) (hmm : m ≤ 1000000) (hg : g < w.heap.size)
    (a0 : w.cell? ⟨g, off, none⟩ = some (.int .i64 t.kind)) (a1 : w.cell? ⟨g, off + 1, none⟩ = some (str t.text)) (a2 : w.cell? ⟨g, off + 2, none⟩ = some (.int .i64 t.num)) (a3 : w.cell? ⟨g, off + 3, none⟩ = some (.int .i64 t.off))
    (b0 : w.cell? ⟨g, off + 4, none⟩ = some (.int .i64 u.kind)) (b2 : w.cell? ⟨g, off + 4 + 2, none⟩ = some (.int .i64 u.num)) (hn0 : -9223372036854775807 ≤ u.num) (hn1 : u.num ≤ 9223372036854775807) :
    Calls Tryd.prog 17 #[.slice (some ⟨g, off, none⟩) m c] w fun e w' => LitRes (litL (t :: u :: r)) e ∧ Below w.heap.size w w' := by
  go_enter Tryd.func17, Tryd.ntmps17
  go_wp2
  all_goals
    first
    | (have HE : litL (t :: u :: r) = some (vl0, 1) := by (rw [litL_cons]; simp_all [wNull, wTrue, wFalse]; done)
       refine bodyPost_ret (v := .tuple #[vl0.agg, .int .i64 1]) (by simp [results, Tryd.results17, go_sem, vl0]) rfl ⟨by rw [HE]; rfl, by (repeat (first | exact Below.refl _ _ | assumption | refine Below.drew ?_ | refine below_drewN ?_ _ | refine Below.alloc ?_ (by first | omega | (simp; done) | (simp; omega)) _ | refine Below.setCell ?_ (by first | omega | (simp; done) | (simp; omega)) _))⟩)
    | (have HE : litL (t :: u :: r) = some (⟨1, 1, []⟩, 1) := by (rw [litL_cons]; simp_all [wNull, wTrue, wFalse]; done)
       refine bodyPost_ret (v := .tuple #[(⟨1, 1, []⟩ : Vl).agg, .int .i64 1]) (by simp [results, Tryd.results17, go_sem, vl0]) rfl ⟨by rw [HE]; rfl, by (repeat (first | exact Below.refl _ _ | assumption | refine Below.drew ?_ | refine below_drewN ?_ _ | refine Below.alloc ?_ (by first | omega | (simp; done) | (simp; omega)) _ | refine Below.setCell ?_ (by first | omega | (simp; done) | (simp; omega)) _))⟩)
    | (have HE : litL (t :: u :: r) = some (⟨1, 0, []⟩, 1) := by (rw [litL_cons]; simp_all [wNull, wTrue, wFalse]; done)
       refine bodyPost_ret (v := .tuple #[(⟨1, 0, []⟩ : Vl).agg, .int .i64 1]) (by simp [results, Tryd.results17, go_sem, vl0]) rfl ⟨by rw [HE]; rfl, by (repeat (first | exact Below.refl _ _ | assumption | refine Below.drew ?_ | refine below_drewN ?_ _ | refine Below.alloc ?_ (by first | omega | (simp; done) | (simp; omega)) _ | refine Below.setCell ?_ (by first | omega | (simp; done) | (simp; omega)) _))⟩)
    | (have HE : litL (t :: u :: r) = some (⟨2, t.num, []⟩, 1) := by (rw [litL_cons]; simp_all [wNull, wTrue, wFalse]; done)
       refine bodyPost_ret (v := .tuple #[(⟨2, t.num, []⟩ : Vl).agg, .int .i64 1]) (by simp [results, Tryd.results17, go_sem, vl0]) rfl ⟨by rw [HE]; rfl, by (repeat (first | exact Below.refl _ _ | assumption | refine Below.drew ?_ | refine below_drewN ?_ _ | refine Below.alloc ?_ (by first | omega | (simp; done) | (simp; omega)) _ | refine Below.setCell ?_ (by first | omega | (simp; done) | (simp; omega)) _))⟩)
    | (have HE : litL (t :: u :: r) = some (⟨3, 0, t.text⟩, 1) := by (rw [litL_cons]; simp_all [wNull, wTrue, wFalse]; done)
       refine bodyPost_ret (v := .tuple #[(⟨3, 0, t.text⟩ : Vl).agg, .int .i64 1]) (by simp [results, Tryd.results17, go_sem, vl0]) rfl ⟨by rw [HE]; rfl, by (repeat (first | exact Below.refl _ _ | assumption | refine Below.drew ?_ | refine below_drewN ?_ _ | refine Below.alloc ?_ (by first | omega | (simp; done) | (simp; omega)) _ | refine Below.setCell ?_ (by first | omega | (simp; done) | (simp; omega)) _))⟩)
    | (have HE : litL (t :: u :: r) = some (⟨4, t.num, []⟩, 1) := by (rw [litL_cons]; simp_all [wNull, wTrue, wFalse]; done)
       refine bodyPost_ret (v := .tuple #[(⟨4, t.num, []⟩ : Vl).agg, .int .i64 1]) (by simp [results, Tryd.results17, go_sem, vl0]) rfl ⟨by rw [HE]; rfl, by (repeat (first | exact Below.refl _ _ | assumption | refine Below.drew ?_ | refine below_drewN ?_ _ | refine Below.alloc ?_ (by first | omega | (simp; done) | (simp; omega)) _ | refine Below.setCell ?_ (by first | omega | (simp; done) | (simp; omega)) _))⟩)
    | (have HE : litL (t :: u :: r) = some (⟨2, -u.num, []⟩, 2) := by (rw [litL_cons]; simp_all [wNull, wTrue, wFalse]; done)
       refine bodyPost_ret (v := .tuple #[(⟨2, -u.num, []⟩ : Vl).agg, .int .i64 2]) (by simp [results, Tryd.results17, go_sem, vl0]) rfl ⟨by rw [HE]; rfl, by (repeat (first | exact Below.refl _ _ | assumption | refine Below.drew ?_ | refine below_drewN ?_ _ | refine Below.alloc ?_ (by first | omega | (simp; done) | (simp; omega)) _ | refine Below.setCell ?_ (by first | omega | (simp; done) | (simp; omega)) _))⟩)
    | (have HE : litL (t :: u :: r) = none := by (rw [litL_cons]; simp_all [wNull, wTrue, wFalse]; done)
       refine bodyPost_ret (v := .tuple #[vl0.agg, .int .i64 0]) (by simp [results, Tryd.results17, go_sem, vl0]) rfl ⟨by rw [HE]; rfl, by (repeat (first | exact Below.refl _ _ | assumption | refine Below.drew ?_ | refine below_drewN ?_ _ | refine Below.alloc ?_ (by first | omega | (simp; done) | (simp; omega)) _ | refine Below.setCell ?_ (by first | omega | (simp; done) | (simp; omega)) _))⟩)
set_option maxRecDepth 100000 in
set_option maxHeartbeats 4000000 in
theorem console_literal_end (g off m c : Nat) (t : Tok) (w : World) (hm : 1 ≤ m) (hmm : m ≤ 1000000) (hg : g < w.heap.size) (hk : t.kind = 0)
    (a0 : w.cell? ⟨g, off, none⟩ = some (.int .i64 t.kind)) (a1 : w.cell? ⟨g, off + 1, none⟩ = some (str t.text)) (a2 : w.cell? ⟨g, off + 2, none⟩ = some (.int .i64 t.num)) (a3 : w.cell? ⟨g, off + 3, none⟩ = some (.int .i64 t.off)) :
    Calls Tryd.prog 17 #[.slice (some ⟨g, off, none⟩) m c] w fun e w' => LitRes none e ∧ Below w.heap.size w w' := by
  rw [hk] at a0
  clear hk
  go_enter Tryd.func17, Tryd.ntmps17
  go_wp2
  refine bodyPost_ret (v := .tuple #[vl0.agg, .int .i64 0]) (by simp [results, Tryd.results17, go_sem, vl0]) rfl ⟨rfl, by (repeat (first | exact Below.refl _ _ | assumption | refine Below.drew ?_ | refine below_drewN ?_ _ | refine Below.alloc ?_ (by first | omega | (simp; done) | (simp; omega)) _ | refine Below.setCell ?_ (by first | omega | (simp; done) | (simp; omega)) _))⟩
set_option maxRecDepth 100000 in
set_option maxHeartbeats 4000000 in
theorem ref42_literal_two (g off m c k : Nat) (t u : Tok) (r : List Tok) (w : World) (hm : k + 1 < m) (hmm : m ≤ 1000000) (hg : g < w.heap.size)
    (a0 : w.cell? ⟨g, off + k * 4, none⟩ = some (.int .i64 t.kind)) (a1 : w.cell? ⟨g, off + k * 4 + 1, none⟩ = some (str t.text)) (a2 : w.cell? ⟨g, off + k * 4 + 2, none⟩ = some (.int .i64 t.num)) (a3 : w.cell? ⟨g, off + k * 4 + 3, none⟩ = some (.int .i64 t.off))
    (b0 : w.cell? ⟨g, off + (k + 1) * 4, none⟩ = some (.int .i64 u.kind)) (b2 : w.cell? ⟨g, off + (k + 1) * 4 + 2, none⟩ = some (.int .i64 u.num)) (hn0 : -9223372036854775807 ≤ u.num) (hn1 : u.num ≤ 9223372036854775807) :
    Calls Tryd.prog 19 #[.slice (some ⟨g, off, none⟩) m c, .int .i64 k] w fun e w' => LitRes2 k (litL (t :: u :: r)) e ∧ Below w.heap.size w w' := by
  go_enter Tryd.func19, Tryd.ntmps19
  go_wp2
  all_goals
    first
    | (have HE : litL (t :: u :: r) = some (vl0, 1) := by (rw [litL_cons]; simp_all [wNull, wTrue, wFalse]; done)
       refine bodyPost_ret (v := .tuple #[vl0.agg, .int .i64 (k + 1), .bool true]) (by simp [results, Tryd.results19, go_sem, vl0]) rfl ⟨by rw [HE]; rfl, by (repeat (first | exact Below.refl _ _ | assumption | refine Below.drew ?_ | refine below_drewN ?_ _ | refine Below.alloc ?_ (by first | omega | (simp; done) | (simp; omega)) _ | refine Below.setCell ?_ (by first | omega | (simp; done) | (simp; omega)) _))⟩)
    | (have HE : litL (t :: u :: r) = some (⟨1, 1, []⟩, 1) := by (rw [litL_cons]; simp_all [wNull, wTrue, wFalse]; done)
       refine bodyPost_ret (v := .tuple #[(⟨1, 1, []⟩ : Vl).agg, .int .i64 (k + 1), .bool true]) (by simp [results, Tryd.results19, go_sem, vl0]) rfl ⟨by rw [HE]; rfl, by (repeat (first | exact Below.refl _ _ | assumption | refine Below.drew ?_ | refine below_drewN ?_ _ | refine Below.alloc ?_ (by first | omega | (simp; done) | (simp; omega)) _ | refine Below.setCell ?_ (by first | omega | (simp; done) | (simp; omega)) _))⟩)
    | (have HE : litL (t :: u :: r) = some (⟨1, 0, []⟩, 1) := by (rw [litL_cons]; simp_all [wNull, wTrue, wFalse]; done)
       refine bodyPost_ret (v := .tuple #[(⟨1, 0, []⟩ : Vl).agg, .int .i64 (k + 1), .bool true]) (by simp [results, Tryd.results19, go_sem, vl0]) rfl ⟨by rw [HE]; rfl, by (repeat (first | exact Below.refl _ _ | assumption | refine Below.drew ?_ | refine below_drewN ?_ _ | refine Below.alloc ?_ (by first | omega | (simp; done) | (simp; omega)) _ | refine Below.setCell ?_ (by first | omega | (simp; done) | (simp; omega)) _))⟩)
    | (have HE : litL (t :: u :: r) = some (⟨2, t.num, []⟩, 1) := by (rw [litL_cons]; simp_all [wNull, wTrue, wFalse]; done)
       refine bodyPost_ret (v := .tuple #[(⟨2, t.num, []⟩ : Vl).agg, .int .i64 (k + 1), .bool true]) (by simp [results, Tryd.results19, go_sem, vl0]) rfl ⟨by rw [HE]; rfl, by (repeat (first | exact Below.refl _ _ | assumption | refine Below.drew ?_ | refine below_drewN ?_ _ | refine Below.alloc ?_ (by first | omega | (simp; done) | (simp; omega)) _ | refine Below.setCell ?_ (by first | omega | (simp; done) | (simp; omega)) _))⟩)
    | (have HE : litL (t :: u :: r) = some (⟨3, 0, t.text⟩, 1) := by (rw [litL_cons]; simp_all [wNull, wTrue, wFalse]; done)
       refine bodyPost_ret (v := .tuple #[(⟨3, 0, t.text⟩ : Vl).agg, .int .i64 (k + 1), .bool true]) (by simp [results, Tryd.results19, go_sem, vl0]) rfl ⟨by rw [HE]; rfl, by (repeat (first | exact Below.refl _ _ | assumption | refine Below.drew ?_ | refine below_drewN ?_ _ | refine Below.alloc ?_ (by first | omega | (simp; done) | (simp; omega)) _ | refine Below.setCell ?_ (by first | omega | (simp; done) | (simp; omega)) _))⟩)
    | (have HE : litL (t :: u :: r) = some (⟨4, t.num, []⟩, 1) := by (rw [litL_cons]; simp_all [wNull, wTrue, wFalse]; done)
       refine bodyPost_ret (v := .tuple #[(⟨4, t.num, []⟩ : Vl).agg, .int .i64 (k + 1), .bool true]) (by simp [results, Tryd.results19, go_sem, vl0]) rfl ⟨by rw [HE]; rfl, by (repeat (first | exact Below.refl _ _ | assumption | refine Below.drew ?_ | refine below_drewN ?_ _ | refine Below.alloc ?_ (by first | omega | (simp; done) | (simp; omega)) _ | refine Below.setCell ?_ (by first | omega | (simp; done) | (simp; omega)) _))⟩)
    | (have HE : litL (t :: u :: r) = some (⟨2, -u.num, []⟩, 2) := by (rw [litL_cons]; simp_all [wNull, wTrue, wFalse]; done)
       refine bodyPost_ret (v := .tuple #[(⟨2, -u.num, []⟩ : Vl).agg, .int .i64 (k + 2), .bool true]) (by simp [results, Tryd.results19, go_sem, vl0]) rfl ⟨by rw [HE]; rfl, by (repeat (first | exact Below.refl _ _ | assumption | refine Below.drew ?_ | refine below_drewN ?_ _ | refine Below.alloc ?_ (by first | omega | (simp; done) | (simp; omega)) _ | refine Below.setCell ?_ (by first | omega | (simp; done) | (simp; omega)) _))⟩)
    | (have HE : litL (t :: u :: r) = none := by (rw [litL_cons]; simp_all [wNull, wTrue, wFalse]; done)
       refine bodyPost_ret (v := .tuple #[vl0.agg, .int .i64 k, .bool false]) (by simp [results, Tryd.results19, go_sem, vl0]) rfl ⟨by rw [HE]; exact ⟨vl0, k, rfl⟩, by (repeat (first | exact Below.refl _ _ | assumption | refine Below.drew ?_ | refine below_drewN ?_ _ | refine Below.alloc ?_ (by first | omega | (simp; done) | (simp; omega)) _ | refine Below.setCell ?_ (by first | omega | (simp; done) | (simp; omega)) _))⟩)
set_option maxRecDepth 100000 in
set_option maxHeartbeats 4000000 in
theorem ref42_literal_end (g off m c k : Nat) (t : Tok) (w : World) (hm : k < m) (hmm : m ≤ 1000000) (hg : g < w.heap.size) (hk : t.kind = 0)
    (a0 : w.cell? ⟨g, off + k * 4, none⟩ = some (.int .i64 t.kind)) (a1 : w.cell? ⟨g, off + k * 4 + 1, none⟩ = some (str t.text)) (a2 : w.cell? ⟨g, off + k * 4 + 2, none⟩ = some (.int .i64 t.num)) (a3 : w.cell? ⟨g, off + k * 4 + 3, none⟩ = some (.int .i64 t.off)) :
    Calls Tryd.prog 19 #[.slice (some ⟨g, off, none⟩) m c, .int .i64 k] w fun e w' => LitRes2 k none e ∧ Below w.heap.size w w' := by
  rw [hk] at a0
  clear hk
  go_enter Tryd.func19, Tryd.ntmps19
  go_wp2
  refine bodyPost_ret (v := .tuple #[vl0.agg, .int .i64 k, .bool false]) (by simp [results, Tryd.results19, go_sem, vl0]) rfl ⟨⟨vl0, k, rfl⟩, by (repeat (first | exact Below.refl _ _ | assumption | refine Below.drew ?_ | refine below_drewN ?_ _ | refine Below.alloc ?_ (by first | omega | (simp; done) | (simp; omega)) _ | refine Below.setCell ?_ (by first | omega | (simp; done) | (simp; omega)) _))⟩
end Go.Proofs.YtajcddaahmbllaaDoor
