/- What the token texts compute, in plain lists of bytes. No program in sight. -/
import Derived.Test.YtlfedcbihbigoaaDoorBytes
set_option linter.unusedVariables false
set_option linter.unusedSimpArgs false
namespace Go.Proofs.YtlfedcbihbigoaaDoor
open Go.RowKit

structure Tok where
  kind : Int
  text : Bytes
  num : Int
  off : Int

abbrev str (l : Bytes) : Value := .string ⟨l.toArray⟩
def Tok.cells (t : Tok) : List Value := [.int .i64 t.kind, str t.text, .int .i64 t.num, .int .i64 t.off]
abbrev Tok.agg (t : Tok) : Value := .agg #[.int .i64 t.kind, str t.text, .int .i64 t.num, .int .i64 t.off]
def tok0 : Tok := ⟨0, [], 0, 0⟩

theorem bs_mk (l : Bytes) : bs ⟨l.toArray⟩ = l := rfl
theorem mk_bs (s : ByteArray) : (⟨(bs s).toArray⟩ : ByteArray) = s := by simp [bs]
theorem bs_inj {a b : ByteArray} (h : bs a = bs b) : a = b := by rw [← mk_bs a, ← mk_bs b, h]
theorem bs_extract (s : ByteArray) (a b : Nat) : bs (s.extract a b) = ((bs s).take b).drop a := by
  simp only [bs, ByteArray.data_extract, Array.toList_extract, List.extract_eq_take_drop]
  rw [List.drop_take]
theorem str_take (s : ByteArray) (n : Nat) : Value.string (s.extract 0 n) = str ((bs s).take n) := by
  have h : bs (s.extract 0 n) = (bs s).take n := by rw [bs_extract]; rfl
  unfold str; rw [← h, mk_bs]

/-! ### names -/
def dotB (l : Bytes) (p : Nat) : Bool := if h : p + 1 < l.length then (l[p].toNat == 46) && letB l[p+1] else false
def nameS (l : Bytes) : Except Int (Tok × Nat) :=
  if 24 < partL l then .error 4
  else if dotB l (partL l) = true then
    if 24 < partL (l.drop (partL l + 1)) then .error 4
    else .ok (⟨1, l.take (partL l + (1 + partL (l.drop (partL l + 1)))), 0, 0⟩, partL l + (1 + partL (l.drop (partL l + 1))))
  else .ok (⟨1, l.take (partL l), 0, 0⟩, partL l)

/-! ### integers -/
def digL (l : Bytes) : Nat := (l.takeWhile digB).length
def valS (l : Bytes) : Int := l.foldl (fun v c => min (10 * v + ((c.toNat : Int) - 48)) 1073741825) 0
/-- What stands behind the digits begins a name. -/
def tailB (l : Bytes) (p : Nat) : Bool := if h : p < l.length then letB l[p] || (l[p].toNat == 95) else false
def intS (l : Bytes) : Except Int (Tok × Nat) :=
  if (match l with | c :: _ => (c.toNat == 48) && decide (1 < digL l) | [] => false) || tailB l (digL l) then .error 3
  else if 1073741824 < valS (l.take (digL l)) then .error 1
  else .ok (⟨2, [], valS (l.take (digL l)), 0⟩, digL l)

/-! ### text literals: what stands behind the first apostrophe -/
def litGo : Bytes → Option (Bytes × Nat)
  | [] => none
  | [c] => if c.toNat = 39 then some ([], 1) else none
  | c :: d :: r =>
    if c.toNat = 39 then
      if d.toNat = 39 then (litGo r).map fun x => (d :: x.1, x.2 + 2) else some ([], 1)
    else (litGo (d :: r)).map fun x => (c :: x.1, x.2 + 1)
def litS (l : Bytes) : Except Int (Tok × Nat) :=
  match litGo (l.drop 1) with
  | none => .error 3
  | some (t, n) => if 64 < t.length then .error 2 else .ok (⟨3, t, 0, 0⟩, n + 1)

/-! ### times -/
def leapB (y : Int) : Bool := (y % 4 == 0) && (y % 100 != 0) || (y % 400 == 0)
def lenM (y m : Int) : Int := if m = 2 then (if leapB y = true then 29 else 28) else if m = 4 ∨ m = 6 ∨ m = 9 ∨ m = 11 then 30 else 31
def yearD (y : Int) : Int := if leapB y = true then 366 else 365
def sumY : Nat → Int
  | 0 => 0
  | k + 1 => sumY k + yearD (1970 + k)
def sumM (y : Int) : Nat → Int
  | 0 => 0
  | k + 1 => sumM y k + lenM y (1 + k)
def dateB (y m d : Int) : Bool := decide (1970 ≤ y) && decide (y ≤ 3065) && decide (1 ≤ m) && decide (m ≤ 12) && decide (1 ≤ d) && decide (d ≤ lenM y m)
def dayN (y m d : Int) : Int := d - 1 + sumY (y - 1970).toNat + sumM y (m - 1).toNat
def daysS (y m d : Int) : Option Int := if dateB y m d = true then (if 400000 < dayN y m d then none else some (dayN y m d)) else none
def numS (l : Bytes) : Int := l.foldl (fun v c => 10 * v + ((c.toNat : Int) - 48)) 0
def timeForm : Bytes := [48, 48, 48, 48, 45, 48, 48, 45, 48, 48, 84, 48, 48, 58, 48, 48]
def fitB : Bytes → Bytes → Bool
  | [], [] => true
  | f :: fs, c :: cs => (if f.toNat = 48 then digB c else c.toNat == f.toNat) && fitB fs cs
  | _, _ => false
def timeS (l : Bytes) : Except Int Int :=
  if fitB timeForm l = false then .error 3
  else match daysS (numS (l.take 4)) (numS ((l.take 7).drop 5)) (numS ((l.take 10).drop 8)) with
    | none => .error 1
    | some n =>
      if 23 < numS ((l.take 13).drop 11) ∨ 59 < numS ((l.take 16).drop 14) ∨ 575999999 < n * 1440 + numS ((l.take 13).drop 11) * 60 + numS ((l.take 16).drop 14) then .error 1
      else .ok (n * 1440 + numS ((l.take 13).drop 11) * 60 + numS ((l.take 16).drop 14))

/-! ### symbols -/
def symbolsS : List Bytes := [[43, 43], [60, 61], [62, 61], [33, 61], [40], [41], [44], [59], [58], [124], [61], [43], [45], [42], [47], [37], [60], [62]]
def symS (l : Bytes) : Except Int (Tok × Nat) :=
  match symbolsS.find? (fun x => x.isPrefixOf l) with
  | some x => .ok (⟨5, x, 0, 0⟩, x.length)
  | none => .error 3

/-! ### one token -/
def atS (l : Bytes) : Except Int (Tok × Nat) :=
  if l.length < 17 then .error 3 else match timeS ((l.take 17).drop 1) with
    | .error e => .error e
    | .ok n => .ok (⟨4, [], n, 0⟩, 17)
def oneS (l : Bytes) : Except Int (Tok × Nat) :=
  match l with
  | [] => .error 3
  | c :: _ =>
    if letB c = true then nameS l else if digB c = true then intS l else if c.toNat = 39 then litS l else if c.toNat = 64 then atS l else symS l

/-! ### all tokens -/
def blankB (c : UInt8) : Bool := (c.toNat == 32) || (c.toNat == 9) || (c.toNat == 10)
def lineL (l : Bytes) : Nat := (l.takeWhile fun c => c.toNat != 10).length
def splitGo : Nat → Bytes → Nat → Except (Nat × Int) (List Tok)
  | 0, _, i => .ok [⟨0, [], 0, i⟩]
  | f + 1, l, i =>
    match l with
    | [] => .ok [⟨0, [], 0, i⟩]
    | c :: r =>
      if blankB c = true then splitGo f r (i + 1)
      else if c.toNat = 35 then splitGo f (l.drop (lineL l)) (i + lineL l)
      else match oneS l with
        | .error e => .error (i, e)
        | .ok (t, n) => match splitGo f (l.drop n) (i + n) with
          | .error e => .error e
          | .ok ts => .ok ({ t with off := i } :: ts)
def splitS (l : Bytes) : Except (Nat × Int) (List Tok) :=
  if 65536 < l.length then .error (0, 2) else splitGo l.length l 0

/-- The reserved words. -/
def wordsS : List Bytes := [[97, 110, 100], [111, 114], [110, 111, 116], [110, 117, 108, 108], [116, 114, 117, 101], [102, 97, 108, 115, 101], [98, 121], [115, 101, 108, 102]]

theorem known1 : splitS [97, 62, 61, 49, 32, 39, 105, 116, 39, 39, 115, 39] = .ok [⟨1, [97], 0, 0⟩, ⟨5, [62, 61], 0, 1⟩, ⟨2, [], 1, 3⟩, ⟨3, [105, 116, 39, 115], 0, 5⟩, ⟨0, [], 0, 12⟩] := by kernel_rfl
theorem known2 : splitS [120, 32, 57, 97] = .error (2, 3) := by kernel_rfl

end Go.Proofs.YtlfedcbihbigoaaDoor
