/- Contracts of the reference's readers of names and integers. -/
import Derived.Test.YtlfedcbihbigoaaDoorTokC
set_option linter.unusedVariables false
set_option linter.unusedSimpArgs false
namespace Go.Proofs.YtlfedcbihbigoaaDoor
open Go.RowKit

def NameRes (r : Except Int (Tok × Nat)) (e : Ending) : Prop :=
  match r with
  | .ok x => e = .returned (.tuple #[.int .i64 (x.2 : Nat), .int .i64 0])
  | .error c => c ≠ 0 ∧ e = .returned (.tuple #[.int .i64 0, .int .i64 c])
theorem NameRes_err {r : Except Int (Tok × Nat)} {c : Int} (h : r = .error c) (hc : c ≠ 0) : NameRes r (.returned (.tuple #[.int .i64 0, .int .i64 c])) := by subst h; exact ⟨hc, rfl⟩
theorem NameRes_ok {r : Except Int (Tok × Nat)} {t : Tok} {n : Nat} (h : r = .ok (t, n)) {m : Int} (hm : m = n) : NameRes r (.returned (.tuple #[.int .i64 m, .int .i64 0])) := by subst h hm; rfl
def IntRes (r : Except Int (Tok × Nat)) (e : Ending) : Prop :=
  match r with
  | .ok x => e = .returned (.tuple #[.int .i64 x.1.num, .int .i64 (x.2 : Nat), .int .i64 0])
  | .error c => c ≠ 0 ∧ e = .returned (.tuple #[.int .i64 0, .int .i64 0, .int .i64 c])
theorem IntRes_err {r : Except Int (Tok × Nat)} {c : Int} (h : r = .error c) (hc : c ≠ 0) : IntRes r (.returned (.tuple #[.int .i64 0, .int .i64 0, .int .i64 c])) := by subst h; exact ⟨hc, rfl⟩
theorem IntRes_ok {r : Except Int (Tok × Nat)} {t : Tok} {n : Nat} (h : r = .ok (t, n)) {v m : Int} (hv : v = t.num) (hm : m = n) : IntRes r (.returned (.tuple #[.int .i64 v, .int .i64 m, .int .i64 0])) := by subst h hm hv; rfl

end Go.Proofs.YtlfedcbihbigoaaDoor
