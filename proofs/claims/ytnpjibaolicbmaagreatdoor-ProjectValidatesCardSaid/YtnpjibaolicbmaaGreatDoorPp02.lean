/- Parts of the proof. -/
import Derived.Shelf.Strings.Search1
import Derived.Shelf.Strings.Search2
import Derived.Shelf.Strings.Search3
import Derived.Shelf.Strings.Cut
import Derived.Shelf.LaysM
import Derived.Shelf.Strings.Shaped
import Derived.Shelf.Slices.Turned
import Derived.Test.YtnpjibaolicbmaaGreatDoorProg
set_option linter.unusedVariables false
set_option linter.unusedSimpArgs false
namespace Go.Proofs
open Go.Shelf
open Go.RowKit Go.Lib in
open Go.RowKit Go.Lib in
open Go.RowKit Go.Lib in
open Go.RowKit Go.Lib in
def Tryz.lays219_ren : Go.Shelf.Ren := ⟨fun | 219 => 204 | 217 => 256 | 225 => 257 | 224 => 258 | 267 => 259 | 266 => 275 | 314 => 276 | n => n, fun | 9 => 9 | 3 => 3 | 4 => 4 | 5 => 5 | 46 => 50 | 146 => 258 | 51 => 257 | n => n, fun | 1 => 3 | n => n⟩
theorem Tryz.lays219 : Go.Proofs.Lays.n219 Tryz.prog Tryz.lays219_ren := {
 mixed := by kernel_rfl
 f217 := Tryz.func256.trans (congrArg some (by kernel_rfl))
 f219 := Tryz.func204.trans (congrArg some (by kernel_rfl))
 f224 := Tryz.func258.trans (congrArg some (by kernel_rfl))
 f225 := Tryz.func257.trans (congrArg some (by kernel_rfl))
 f266 := Tryz.func275.trans (congrArg some (by kernel_rfl))
 f267 := Tryz.func259.trans (congrArg some (by kernel_rfl))
 f314 := Tryz.func276.trans (congrArg some (by kernel_rfl))
 t3 := Tryz.underlying3
 a3 := Tryz.isAgg3
 z3 := Tryz.sizeOf3
 v3 := Tryz.zeroValue3
 t4 := Tryz.underlying4
 a4 := Tryz.isAgg4
 z4 := Tryz.sizeOf4
 v4 := Tryz.zeroValue4
 t5 := Tryz.underlying5
 a5 := Tryz.isAgg5
 z5 := Tryz.sizeOf5
 v5 := Tryz.zeroValue5
 t9 := Tryz.underlying9
 a9 := Tryz.isAgg9
 z9 := Tryz.sizeOf9
 v9 := Tryz.zeroValue9
 t46 := Tryz.underlying50
 a46 := Tryz.isAgg50
 z46 := Tryz.sizeOf50
 v46 := Tryz.zeroValue50
 t51 := Tryz.underlying257
 a51 := Tryz.isAgg257
 z51 := Tryz.sizeOf257
 v51 := Tryz.zeroValue257
 t146 := Tryz.underlying258
 a146 := Tryz.isAgg258
 z146 := Tryz.sizeOf258
 v146 := Tryz.zeroValue258
 g1 := by kernel_rfl }
open Go.RowKit Go.Lib in
theorem Tryz.stringslite_Index_one (s : ByteArray) (c : UInt8) (w : World) :
  Calls Tryz.prog 204 #[.string s, .string ⟨#[c]⟩] w fun e w' => e = .returned (.int .i64 (Lib.indexByte s.data.toList c)) ∧ w' = w := Any.stringslite_Index_one Tryz.lays219 s c w
open Go.RowKit Go.Lib in
open Go.RowKit Go.Lib in
open Go.RowKit Go.Lib in
def Tryz.lays144_ren : Go.Shelf.Ren := ⟨fun | 144 => 88 | 143 => 150 | 219 => 204 | 217 => 256 | 225 => 257 | 224 => 258 | 267 => 259 | 266 => 275 | 314 => 276 | n => n, fun | 9 => 9 | 4 => 4 | 3 => 3 | 5 => 5 | 46 => 50 | 146 => 258 | 51 => 257 | n => n, fun | 1 => 3 | n => n⟩
theorem Tryz.lays144 : Go.Proofs.Lays.n144 Tryz.prog Tryz.lays144_ren := {
 mixed := by kernel_rfl
 f143 := Tryz.func150.trans (congrArg some (by kernel_rfl))
 f144 := Tryz.func88.trans (congrArg some (by kernel_rfl))
 f217 := Tryz.func256.trans (congrArg some (by kernel_rfl))
 f219 := Tryz.func204.trans (congrArg some (by kernel_rfl))
 f224 := Tryz.func258.trans (congrArg some (by kernel_rfl))
 f225 := Tryz.func257.trans (congrArg some (by kernel_rfl))
 f266 := Tryz.func275.trans (congrArg some (by kernel_rfl))
 f267 := Tryz.func259.trans (congrArg some (by kernel_rfl))
 f314 := Tryz.func276.trans (congrArg some (by kernel_rfl))
 t3 := Tryz.underlying3
 a3 := Tryz.isAgg3
 z3 := Tryz.sizeOf3
 v3 := Tryz.zeroValue3
 t4 := Tryz.underlying4
 a4 := Tryz.isAgg4
 z4 := Tryz.sizeOf4
 v4 := Tryz.zeroValue4
 t5 := Tryz.underlying5
 a5 := Tryz.isAgg5
 z5 := Tryz.sizeOf5
 v5 := Tryz.zeroValue5
 t9 := Tryz.underlying9
 a9 := Tryz.isAgg9
 z9 := Tryz.sizeOf9
 v9 := Tryz.zeroValue9
 t46 := Tryz.underlying50
 a46 := Tryz.isAgg50
 z46 := Tryz.sizeOf50
 v46 := Tryz.zeroValue50
 t51 := Tryz.underlying257
 a51 := Tryz.isAgg257
 z51 := Tryz.sizeOf257
 v51 := Tryz.zeroValue257
 t146 := Tryz.underlying258
 a146 := Tryz.isAgg258
 z146 := Tryz.sizeOf258
 v146 := Tryz.zeroValue258
 g1 := by kernel_rfl }
open Go.RowKit Go.Lib in
theorem Tryz.strings_Contains_one (s : ByteArray) (c : UInt8) (w : World) :
  Calls Tryz.prog 88 #[.string s, .string ⟨#[c]⟩] w fun e w' => e = .returned (.bool (decide (0 ≤ Lib.indexByte s.data.toList c))) ∧ w' = w := Any.strings_Contains_one Tryz.lays144 s c w
open Go.RowKit Go.Lib in
open Go.RowKit Go.Lib in
open Go.RowKit Go.Lib in
open Go.RowKit Go.Lib in
open Go.RowKit Go.Lib in
open Go.RowKit Go.Lib in
open Go.RowKit Go.Lib in
open Go.RowKit Go.Lib in
open Go.Lib in
open Go.Lib in
def Tryz.lays110_ren : Go.Shelf.Ren := ⟨fun | 110 => 85 | 109 => 148 | n => n, fun | 31 => 26 | 9 => 9 | 4 => 4 | 3 => 3 | 0 => 0 | n => n, fun | n => n⟩
theorem Tryz.lays110 : Go.Proofs.Lays.n110 Tryz.prog Tryz.lays110_ren := {
 mixed := by kernel_rfl
 f109 := Tryz.func148.trans (congrArg some (by kernel_rfl))
 f110 := Tryz.func85.trans (congrArg some (by kernel_rfl))
 t0 := Tryz.underlying0
 a0 := Tryz.isAgg0
 z0 := Tryz.sizeOf0
 v0 := Tryz.zeroValue0
 t3 := Tryz.underlying3
 a3 := Tryz.isAgg3
 z3 := Tryz.sizeOf3
 v3 := Tryz.zeroValue3
 t4 := Tryz.underlying4
 a4 := Tryz.isAgg4
 z4 := Tryz.sizeOf4
 v4 := Tryz.zeroValue4
 t9 := Tryz.underlying9
 a9 := Tryz.isAgg9
 z9 := Tryz.sizeOf9
 v9 := Tryz.zeroValue9
 t31 := Tryz.underlying26
 a31 := Tryz.isAgg26
 z31 := Tryz.sizeOf26
 v31 := Tryz.zeroValue26 }
open Go.Lib in
theorem Tryz.slices_Contains_string (b off n c : Nat) (zs : List ByteArray) (x : ByteArray) (w : World) (hz : n ≤ zs.length) (hbig : n ≤ 9223372036854775807) (hc : ∀ j, j < zs.length → w.cell? ⟨b, off + j, none⟩ = some (.string (zs.getD j ByteArray.empty))) :
  Calls Tryz.prog 85 #[.slice (some ⟨b, off, none⟩) n c, .string x] w fun e w' => e = .returned (.bool (Lib.containsS (zs.take n) x)) ∧ w' = w := Any.slices_Contains_string Tryz.lays110 b off n c zs x w hz hbig hc
open Go.Lib in
theorem Tryz.slices_Contains_string_empty (a : Option Addr) (c : Nat) (x : ByteArray) (w : World) :
  Calls Tryz.prog 85 #[.slice a 0 c, .string x] w fun e w' => e = .returned (.bool false) ∧ w' = w := Any.slices_Contains_string_empty Tryz.lays110 a c x w
end Go.Proofs
