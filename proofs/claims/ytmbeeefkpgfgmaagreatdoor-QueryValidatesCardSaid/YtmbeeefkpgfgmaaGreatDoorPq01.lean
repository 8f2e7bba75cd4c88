/- Plain facts on bytes and lists that the token texts use. No program in sight. What the token texts compute, in plain lists of bytes. No program in sight. Rows of bytes and of tokens that a call makes itself: small laws. No program in sight. What the laid package-level variables read as, and that it lasts. Plain facts on the splitter: it never needs more steps than bytes; what one round does. No program in sight. -/
import Derived.WalkKit
import Derived.WalkSpells
import Derived.Laws.BytesArg
import Derived.Deep.QuietTactic
import Derived.BigQuiet
import Derived.Lib.Bytealg
set_option linter.unusedVariables false
set_option linter.unusedSimpArgs false
namespace Go.Proofs.YtmbeeefkpgfgmaaGreatDoor
open Go.RowKit

abbrev Bytes := List UInt8

def bs (s : ByteArray) : Bytes := s.data.toList

def letB (c : UInt8) : Bool := decide (97 ≤ c.toNat) && decide (c.toNat ≤ 122)
def digB (c : UInt8) : Bool := decide (48 ≤ c.toNat) && decide (c.toNat ≤ 57)
def wordB (c : UInt8) : Bool := letB c || digB c || (c.toNat == 95)
def partL (l : Bytes) : Nat := (l.takeWhile wordB).length

theorem bs_length (s : ByteArray) : (bs s).length = s.size := rfl
theorem hide {p : Prop} (h : p) : Hid p := h
theorem ret_int {k : IntKind} {a b : Int} (h : a = b) : Ending.returned (.int k a) = .returned (.int k b) := by rw [h]
theorem ret_bool {a b : Bool} (h : a = b) : Ending.returned (.bool a) = .returned (.bool b) := by rw [h]

theorem wordB_cases {c : UInt8} (h : wordB c = true) : letB c = true ∨ (letB c = false ∧ digB c = true) ∨ (letB c = false ∧ digB c = false ∧ ((c.toNat : Int) == 95) = true) := by
  unfold wordB at h
  cases h1 : letB c <;> cases h2 : digB c <;> simp_all <;> omega
theorem wordB_no {c : UInt8} (h : wordB c = false) : letB c = false ∧ digB c = false ∧ ((c.toNat : Int) == 95) = false := by
  unfold wordB at h
  cases h1 : letB c <;> cases h2 : digB c <;> simp_all <;> omega

end Go.Proofs.YtmbeeefkpgfgmaaGreatDoor

namespace Go.Proofs.YtmbeeefkpgfgmaaGreatDoor
open Go.RowKit

structure Tok where
  kind : Int
  text : Bytes
  num : Int
  off : Int

abbrev str (l : Bytes) : Value := .string ⟨l.toArray⟩
def Tok.cells (t : Tok) : List Value := [.int .i64 t.kind, str t.text, .int .i64 t.num, .int .i64 t.off]
abbrev Tok.agg (t : Tok) : Value := .agg #[.int .i64 t.kind, str t.text, .int .i64 t.num, .int .i64 t.off]
theorem mk_bs (s : ByteArray) : (⟨(bs s).toArray⟩ : ByteArray) = s := by simp [bs]
theorem bs_extract (s : ByteArray) (a b : Nat) : bs (s.extract a b) = ((bs s).take b).drop a := by
  simp only [bs, ByteArray.data_extract, Array.toList_extract, List.extract_eq_take_drop]
  rw [List.drop_take]
/-! ### names -/
def dotB (l : Bytes) (p : Nat) : Bool := if h : p + 1 < l.length then (l[p].toNat == 46) && letB l[p+1] else false
def nameS (l : Bytes) : Except Int (Tok × Nat) :=
  if 24 < partL l then .error 4
  else if dotB l (partL l) = true then
    if 24 < partL (l.drop (partL l + 1)) then .error 4
    else .ok (⟨1, l.take (partL l + (1 + partL (l.drop (partL l + 1)))), 0, 0⟩, partL l + (1 + partL (l.drop (partL l + 1))))
  else .ok (⟨1, l.take (partL l), 0, 0⟩, partL l)

/-! ### integers -/
def digL (l : Bytes) : Nat := (l.takeWhile digB).length
def valS (l : Bytes) : Int := l.foldl (fun v c => min (10 * v + ((c.toNat : Int) - 48)) 1073741825) 0
def tailB (l : Bytes) (p : Nat) : Bool := if h : p < l.length then letB l[p] || (l[p].toNat == 95) else false
def intS (l : Bytes) : Except Int (Tok × Nat) :=
  if (match l with | c :: _ => (c.toNat == 48) && decide (1 < digL l) | [] => false) || tailB l (digL l) then .error 3
  else if 1073741824 < valS (l.take (digL l)) then .error 1
  else .ok (⟨2, [], valS (l.take (digL l)), 0⟩, digL l)

/-! ### text literals: what stands behind the first apostrophe -/
def litGo : Bytes → Option (Bytes × Nat)
  | [] => none
  | [c] => if c.toNat = 39 then some ([], 1) else none
  | c :: d :: r =>
    if c.toNat = 39 then
      if d.toNat = 39 then (litGo r).map fun x => (d :: x.1, x.2 + 2) else some ([], 1)
    else (litGo (d :: r)).map fun x => (c :: x.1, x.2 + 1)
def litS (l : Bytes) : Except Int (Tok × Nat) :=
  match litGo (l.drop 1) with
  | none => .error 3
  | some (t, n) => if 64 < t.length then .error 2 else .ok (⟨3, t, 0, 0⟩, n + 1)

/-! ### times -/
def leapB (y : Int) : Bool := (y % 4 == 0) && (y % 100 != 0) || (y % 400 == 0)
def lenM (y m : Int) : Int := if m = 2 then (if leapB y = true then 29 else 28) else if m = 4 ∨ m = 6 ∨ m = 9 ∨ m = 11 then 30 else 31
def yearD (y : Int) : Int := if leapB y = true then 366 else 365
def sumY : Nat → Int
  | 0 => 0
  | k + 1 => sumY k + yearD (1970 + k)
def sumM (y : Int) : Nat → Int
  | 0 => 0
  | k + 1 => sumM y k + lenM y (1 + k)
def dateB (y m d : Int) : Bool := decide (1970 ≤ y) && decide (y ≤ 3065) && decide (1 ≤ m) && decide (m ≤ 12) && decide (1 ≤ d) && decide (d ≤ lenM y m)
def dayN (y m d : Int) : Int := d - 1 + sumY (y - 1970).toNat + sumM y (m - 1).toNat
def daysS (y m d : Int) : Option Int := if dateB y m d = true then (if 400000 < dayN y m d then none else some (dayN y m d)) else none
def numS (l : Bytes) : Int := l.foldl (fun v c => 10 * v + ((c.toNat : Int) - 48)) 0
def timeForm : Bytes := [48, 48, 48, 48, 45, 48, 48, 45, 48, 48, 84, 48, 48, 58, 48, 48]
def fitB : Bytes → Bytes → Bool
  | [], [] => true
  | f :: fs, c :: cs => (if f.toNat = 48 then digB c else c.toNat == f.toNat) && fitB fs cs
  | _, _ => false
def timeS (l : Bytes) : Except Int Int :=
  if fitB timeForm l = false then .error 3
  else match daysS (numS (l.take 4)) (numS ((l.take 7).drop 5)) (numS ((l.take 10).drop 8)) with
    | none => .error 1
    | some n =>
      if 23 < numS ((l.take 13).drop 11) ∨ 59 < numS ((l.take 16).drop 14) ∨ 575999999 < n * 1440 + numS ((l.take 13).drop 11) * 60 + numS ((l.take 16).drop 14) then .error 1
      else .ok (n * 1440 + numS ((l.take 13).drop 11) * 60 + numS ((l.take 16).drop 14))

/-! ### symbols -/
def symbolsS : List Bytes := [[43, 43], [60, 61], [62, 61], [33, 61], [40], [41], [44], [59], [58], [124], [61], [43], [45], [42], [47], [37], [60], [62]]
def symS (l : Bytes) : Except Int (Tok × Nat) :=
  match symbolsS.find? (fun x => x.isPrefixOf l) with
  | some x => .ok (⟨5, x, 0, 0⟩, x.length)
  | none => .error 3

/-! ### one token -/
def atS (l : Bytes) : Except Int (Tok × Nat) :=
  if l.length < 17 then .error 3 else match timeS ((l.take 17).drop 1) with
    | .error e => .error e
    | .ok n => .ok (⟨4, [], n, 0⟩, 17)
def oneS (l : Bytes) : Except Int (Tok × Nat) :=
  match l with
  | [] => .error 3
  | c :: _ =>
    if letB c = true then nameS l else if digB c = true then intS l else if c.toNat = 39 then litS l else if c.toNat = 64 then atS l else symS l

/-! ### all tokens -/
def blankB (c : UInt8) : Bool := (c.toNat == 32) || (c.toNat == 9) || (c.toNat == 10)
def lineL (l : Bytes) : Nat := (l.takeWhile fun c => c.toNat != 10).length
def splitGo : Nat → Bytes → Nat → Except (Nat × Int) (List Tok)
  | 0, _, i => .ok [⟨0, [], 0, i⟩]
  | f + 1, l, i =>
    match l with
    | [] => .ok [⟨0, [], 0, i⟩]
    | c :: r =>
      if blankB c = true then splitGo f r (i + 1)
      else if c.toNat = 35 then splitGo f (l.drop (lineL l)) (i + lineL l)
      else match oneS l with
        | .error e => .error (i, e)
        | .ok (t, n) => match splitGo f (l.drop n) (i + n) with
          | .error e => .error e
          | .ok ts => .ok ({ t with off := i } :: ts)
def wordsS : List Bytes := [[97, 110, 100], [111, 114], [110, 111, 116], [110, 117, 108, 108], [116, 114, 117, 101], [102, 97, 108, 115, 101], [98, 121], [115, 101, 108, 102]]

end Go.Proofs.YtmbeeefkpgfgmaaGreatDoor

namespace Go.Proofs.YtmbeeefkpgfgmaaGreatDoor
open Go.RowKit

abbrev byteV (c : UInt8) : Value := .int .u8 (c.toNat : Int)

theorem own_form {w : World} {base e size n : Nat} {v : Value} {xs : List Value} (h : w.ownsRow base e size v n xs) : ∃ A c, v = .slice A n c := by
  rcases h.2 with ⟨rfl, rfl⟩ | ⟨g, cap, cur, rfl, _⟩
  · exact ⟨none, 0, rfl⟩
  · exact ⟨_, _, rfl⟩
theorem own_nil (w : World) (base e size : Nat) : w.ownsRow base e size (.slice none 0 0) 0 [] := ⟨by simp, .inl ⟨rfl, rfl⟩⟩

theorem strOf_bytes (b : Bytes) : strOfNums (b.map fun c => (c.toNat : Int)) = ⟨b.toArray⟩ := by
  unfold strOfNums
  congr 2
  rw [List.map_map]
  conv => rhs; rw [← List.map_id b]
  apply List.map_congr_left
  intro c _
  simp

theorem run_conv_own {P : Program} {w : World} {src e dst : TypeId} (hs : P.underlying src = some (.slice e)) (he : P.underlying e = some (.int .u8)) (hd : P.underlying dst = some .string)
    {base : Nat} {A : Option Addr} {n c : Nat} {b : Bytes} (h : w.ownsRow base e 1 (.slice A n c) b.length (b.map byteV)) :
    (convert src dst (.slice A n c)).run P w = .ok (str b) w := by
  rcases h.2 with ⟨hv, hn⟩ | ⟨g, cap, cur, hv, hg, hh, hnc, hcap, hsz, htk⟩
  · injection hv with h1 h2 h3
    subst h1
    have hb : b = [] := List.eq_nil_of_length_eq_zero hn
    subst hb
    rw [run_convert_bytes_nil w src e hs he _ _ dst hd]
    rfl
  · have hv' := hv
    injection hv with h1 h2 h3
    subst h1
    subst h2 h3
    have hcell := fun j hj => World.ownsRow.cellAt (h) j hj
    rw [run_convert_bytes_arg w src e hs he g 0 b.length c (b.map fun c => (c.toNat : Int)) (by simp) (fun i hi => ?_) dst hd, strOf_bytes]
    rw [Nat.zero_add, hcell i (by omega)]
    simp [List.getD, List.getElem?_eq_getElem hi]

theorem heap_of_below {B : Nat} {w w' : World} {o : Obj} (h : Below B (w.alloc o) w') (hB : w.heap.size < B) : w'.heap[w.heap.size]? = some o := by
  rw [h.block _ hB]; exact heap_alloc_new w o
theorem cell_of_heap {w : World} {g : Nat} {cs : Array Value} {t : TypeId} (h : w.heap[g]? = some (.cells cs t)) (i : Nat) : w.cell? ⟨g, i, none⟩ = cs[i]? := by simp [World.cell?, h]
theorem free_of_heap {w : World} {g : Nat} {cs : Array Value} {t : TypeId} (h : w.heap[g]? = some (.cells cs t)) (i : Nat) : w.frozen? ⟨g, i, none⟩ = false := by simp [World.frozen?, h]
theorem lt_of_heap {w : World} {g : Nat} {o : Obj} (h : w.heap[g]? = some o) : g < w.heap.size := by
  rcases Nat.lt_or_ge g w.heap.size with h1 | h1
  · exact h1
  · rw [Array.getElem?_eq_none h1] at h; cases h

/-! ### literals -/
end Go.Proofs.YtmbeeefkpgfgmaaGreatDoor

namespace Go.Proofs.YtmbeeefkpgfgmaaGreatDoor
open Go.RowKit

def monthL : List Int := [31, 28, 31, 30, 31, 30, 31, 31, 30, 31, 30, 31]
def StrVar (w : World) (g : Nat) (l : List Bytes) : Prop :=
  g < w.heap.size ∧ ∃ b off c, b < w.heap.size ∧ w.cell? ⟨g, 0, none⟩ = some (.slice (some ⟨b, off, none⟩) l.length c) ∧ ∀ j, j < l.length → w.cell? ⟨b, off + j, none⟩ = some (str (l.getD j []))
def LenVar (w : World) (g : Nat) : Prop := g < w.heap.size ∧ ∀ j, j < 12 → w.cell? ⟨g, j, none⟩ = some (.int .i64 (monthL.getD j 0))
theorem StrVar.below {w w' : World} {g : Nat} {l : List Bytes} (h : StrVar w g l) (hb : Below w.heap.size w w') : StrVar w' g l := by
  obtain ⟨h0, b, off, c, h1, h2, h3⟩ := h
  refine ⟨Nat.lt_of_lt_of_le h0 hb.size, b, off, c, Nat.lt_of_lt_of_le h1 hb.size, ?_, fun j hj => ?_⟩
  · rw [hb.cell (p := ⟨g, 0, none⟩) h0]; exact h2
  · rw [hb.cell (p := ⟨b, off + j, none⟩) h1]; exact h3 j hj
theorem LenVar.below {w w' : World} {g : Nat} (h : LenVar w g) (hb : Below w.heap.size w w') : LenVar w' g :=
  ⟨Nat.lt_of_lt_of_le h.1 hb.size, fun j hj => by rw [hb.cell (p := ⟨g, j, none⟩) h.1]; exact h.2 j hj⟩

theorem below_drewN {B : Nat} {a w : World} (h : Below B a w) (n : Nat) : Below B a (w.drewN n) := ⟨h.os, h.tape, h.output, h.size, h.block⟩

structure Glob (w : World) : Prop where
  lens : LenVar w 5
  words : StrVar w 2 wordsS
  syms : StrVar w 3 symbolsS
theorem Glob.below {w w' : World} (h : Glob w) (hb : Below w.heap.size w w') : Glob w' := by
  constructor
  all_goals first | exact h.lens.below hb | exact h.syms.below hb | exact h.words.below hb

end Go.Proofs.YtmbeeefkpgfgmaaGreatDoor
namespace Go.Proofs.YtmbeeefkpgfgmaaGreatDoor
open Go.RowKit

def SplitRel (l : Bytes) (i : Nat) (acc : List Tok) : Prop :=
  splitGo l.length l 0 = (match splitGo (l.length - i) (l.drop i) i with | .error e => .error e | .ok ts => .ok (acc ++ ts)) ∧ i ≤ l.length ∧ acc.length ≤ i
end Go.Proofs.YtmbeeefkpgfgmaaGreatDoor
