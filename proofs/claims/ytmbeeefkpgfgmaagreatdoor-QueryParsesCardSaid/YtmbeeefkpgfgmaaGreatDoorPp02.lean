/- Parts of the proof. -/
import Derived.Shelf.Strings.Builder1
import Derived.Shelf.Strings.Builder2
import Derived.Shelf.Strings.OnBuilder
import Derived.Shelf.Small.Strs
import Derived.Shelf.Small.Wraps
import Derived.Shelf.Strings.BuilderF
import Derived.Shelf.Strings.BuilderK
import Derived.Shelf.Strings.Builder2Cap
import Derived.Shelf.Strconv.Itoa0
import Derived.Shelf.Strconv.Itoa1
import Derived.Shelf.LaysM
import Derived.Shelf.Strconv.Itoa2
import Derived.Shelf.Strconv.Itoa3
import Derived.Shelf.Strings.Search1
import Derived.Shelf.Strings.Search2
import Derived.Shelf.Strings.Search3
import Derived.Shelf.Strings.Cut
import Derived.Shelf.Strings.Count
import Derived.Shelf.Strings.Shaped
import Derived.Shelf.Strings.Prefix
import Derived.Shelf.Strings.Split
import Derived.Shelf.Strings.Replace
import Derived.Shelf.Strings.SplitShaped
import Derived.Shelf.Strings.RuneCount
import Derived.Shelf.Unicode.DecodeSlow
import Derived.Shelf.Strings.BuilderCap
import Derived.Shelf.Slices.Turned
import Derived.Test.YtmbeeefkpgfgmaaGreatDoorProg
set_option linter.unusedVariables false
set_option linter.unusedSimpArgs false
namespace Go.Proofs
open Go.Shelf
def Tryz.lays156_ren : Go.Shelf.Ren := ⟨fun | 156 => 81 | 165 => 136 | 166 => 137 | 169 => 138 | 240 => 207 | 241 => 208 | 276 => 251 | 277 => 252 | n => n, fun | 31 => 23 | 9 => 9 | 3 => 3 | 4 => 4 | 0 => 0 | 20 => 20 | 72 => 157 | 76 => 161 | 70 => 154 | 37 => 155 | 75 => 160 | 127 => 209 | 164 => 243 | 5 => 5 | 80 => 131 | n => n, fun | n => n⟩
theorem Tryz.lays156 : Go.Proofs.Lays.n156 Tryz.prog Tryz.lays156_ren := {
 mixed := by kernel_rfl
 f156 := Tryz.func81.trans (congrArg some (by kernel_rfl))
 f165 := Tryz.func136.trans (congrArg some (by kernel_rfl))
 f166 := Tryz.func137.trans (congrArg some (by kernel_rfl))
 f169 := Tryz.func138.trans (congrArg some (by kernel_rfl))
 f240 := Tryz.func207.trans (congrArg some (by kernel_rfl))
 f241 := Tryz.func208.trans (congrArg some (by kernel_rfl))
 f276 := Tryz.func251.trans (congrArg some (by kernel_rfl))
 f277 := Tryz.func252.trans (congrArg some (by kernel_rfl))
 t0 := Tryz.underlying0
 a0 := Tryz.isAgg0
 z0 := Tryz.sizeOf0
 v0 := Tryz.zeroValue0
 t3 := Tryz.underlying3
 a3 := Tryz.isAgg3
 z3 := Tryz.sizeOf3
 v3 := Tryz.zeroValue3
 t4 := Tryz.underlying4
 a4 := Tryz.isAgg4
 z4 := Tryz.sizeOf4
 v4 := Tryz.zeroValue4
 t9 := Tryz.underlying9
 a9 := Tryz.isAgg9
 z9 := Tryz.sizeOf9
 v9 := Tryz.zeroValue9
 t20 := Tryz.underlying20
 a20 := Tryz.isAgg20
 z20 := Tryz.sizeOf20
 v20 := Tryz.zeroValue20
 t31 := Tryz.underlying23
 a31 := Tryz.isAgg23
 z31 := Tryz.sizeOf23
 v31 := Tryz.zeroValue23
 t37 := Tryz.underlying155
 a37 := Tryz.isAgg155
 z37 := Tryz.sizeOf155
 v37 := Tryz.zeroValue155
 t70 := Tryz.underlying154
 a70 := Tryz.isAgg154
 z70 := Tryz.sizeOf154
 v70 := Tryz.zeroValue154
 t72 := Tryz.underlying157
 a72 := Tryz.isAgg157
 z72 := Tryz.sizeOf157
 v72 := Tryz.zeroValue157
 t75 := Tryz.underlying160
 a75 := Tryz.isAgg160
 z75 := Tryz.sizeOf160
 v75 := Tryz.zeroValue160
 t76 := Tryz.underlying161
 a76 := Tryz.isAgg161
 z76 := Tryz.sizeOf161
 v76 := Tryz.zeroValue161
 t127 := Tryz.underlying209
 a127 := Tryz.isAgg209
 z127 := Tryz.sizeOf209
 v127 := Tryz.zeroValue209
 t164 := Tryz.underlying243
 a164 := Tryz.isAgg243
 z164 := Tryz.sizeOf243
 v164 := Tryz.zeroValue243 }
theorem Tryz.Builder_Extra_156 : Builder.Extra Tryz.prog Tryz.lays156_ren := {
 sizeBuilder := by kernel_rfl
 liesBuilder := by kernel_rfl
 t5 := Tryz.underlying5
 a5 := Tryz.isAgg5
 z5 := Tryz.sizeOf5
 v5 := Tryz.zeroValue5
 infoByte := by kernel_rfl
 cellsByte := by kernel_rfl
 sizeByte := by kernel_rfl
 neB5 := by decide }
open Go.RowKit in
theorem Tryz.strings_Join_none (a : Option Addr) (c : Nat) (sep : ByteArray) (w : World) :
  Calls Tryz.prog 81 #[.slice a 0 c, .string sep] w fun e w' => e = .returned (.string ⟨#[]⟩) ∧ w' = w := Any.strings_Join_none Tryz.lays156 Tryz.Builder_Extra_156 a c sep w
open Go.RowKit in
theorem Tryz.strings_Join (bk o c : Nat) (xs : List ByteArray) (sep : ByteArray) (w : World) (hcells : ∀ (j : Nat) x, xs[j]? = some x → w.cell? ⟨bk, o + j, none⟩ = some (.string x)) (hbk : bk < w.heap.size) (hN : xs.length ≤ 140737488355328) (hcap : xs.length ≤ c) (hlen : (Lib.join (xs.map (·.data.toList)) sep.data.toList).length ≤ 140737488355328) :
  Calls Tryz.prog 81 #[.slice (some ⟨bk, o, none⟩) xs.length c, .string sep] w fun e w' => e = .returned (.string ⟨(Lib.join (xs.map (·.data.toList)) sep.data.toList).toArray⟩) ∧ Below w.heap.size w w' := Any.strings_Join Tryz.lays156 Tryz.Builder_Extra_156 bk o c xs sep w hcells hbk hN hcap hlen
def Tryz.lays137_ren : Go.Shelf.Ren := ⟨fun | 137 => 139 | 217 => 209 | 266 => 253 | n => n, fun | 9 => 9 | 5 => 5 | 3 => 3 | n => n, fun | n => n⟩
theorem Tryz.lays137 : Go.Proofs.Lays.n137 Tryz.prog Tryz.lays137_ren := {
 mixed := by kernel_rfl
 f137 := Tryz.func139.trans (congrArg some (by kernel_rfl))
 f217 := Tryz.func209.trans (congrArg some (by kernel_rfl))
 f266 := Tryz.func253.trans (congrArg some (by kernel_rfl))
 t3 := Tryz.underlying3
 a3 := Tryz.isAgg3
 z3 := Tryz.sizeOf3
 v3 := Tryz.zeroValue3
 t5 := Tryz.underlying5
 a5 := Tryz.isAgg5
 z5 := Tryz.sizeOf5
 v5 := Tryz.zeroValue5
 t9 := Tryz.underlying9
 a9 := Tryz.isAgg9
 z9 := Tryz.sizeOf9
 v9 := Tryz.zeroValue9 }
open Go.RowKit in
theorem Tryz.strings_IndexByte (s : ByteArray) (c : Int) (w : World) :
  Calls Tryz.prog 139 #[.string s, .int .u8 c] w fun e w' => e = .returned (.int .i64 (Lib.indexByte s.data.toList c.toNat.toUInt8)) ∧ w' = w := Any.strings_IndexByte Tryz.lays137 s c w
open Go.RowKit in
def Tryz.laysM171_ren : Go.Shelf.Ren := ⟨fun | 171 => 206 | 243 => 250 | 246 => 274 | 283 => 297 | 284 => 298 | 285 => 299 | 286 => 300 | 129 => 314 | 317 => 313 | 318 => 315 | 319 => 316 | 320 => 317 | 337 => 328 | 338 => 329 | n => n, fun | 3 => 3 | 9 => 9 | 2 => 2 | 4 => 4 | 171 => 282 | 0 => 0 | 53 => 283 | 37 => 155 | 5 => 5 | 173 => 286 | 212 => 299 | 51 => 290 | 20 => 20 | 213 => 300 | 46 => 47 | 232 => 313 | 233 => 314 | n => n, fun | 17 => 6 | 18 => 9 | 19 => 10 | n => n⟩
theorem Tryz.laysM171 : Go.Proofs.LaysM.n171 Tryz.prog Tryz.laysM171_ren := {
 mixed := by kernel_rfl
 f129 := Tryz.func314.trans (congrArg some (by kernel_rfl))
 f171 := Tryz.func206.trans (congrArg some (by kernel_rfl))
 f243 := Tryz.func250.trans (congrArg some (by kernel_rfl))
 f246 := Tryz.func274.trans (congrArg some (by kernel_rfl))
 f283 := Tryz.func297.trans (congrArg some (by kernel_rfl))
 f284 := Tryz.func298.trans (congrArg some (by kernel_rfl))
 f285 := Tryz.func299.trans (congrArg some (by kernel_rfl))
 f286 := Tryz.func300.trans (congrArg some (by kernel_rfl))
 f317 := Tryz.func313.trans (congrArg some (by kernel_rfl))
 f318 := Tryz.func315.trans (congrArg some (by kernel_rfl))
 f319 := Tryz.func316.trans (congrArg some (by kernel_rfl))
 f320 := Tryz.func317.trans (congrArg some (by kernel_rfl))
 f337 := Tryz.func328.trans (congrArg some (by kernel_rfl))
 f338 := Tryz.func329.trans (congrArg some (by kernel_rfl))
 t0 := Tryz.underlying0
 a0 := Tryz.isAgg0
 z0 := Tryz.sizeOf0
 v0 := Tryz.zeroValue0
 t2 := Tryz.underlying2
 a2 := Tryz.isAgg2
 z2 := Tryz.sizeOf2
 v2 := Tryz.zeroValue2
 t3 := Tryz.underlying3
 a3 := Tryz.isAgg3
 z3 := Tryz.sizeOf3
 v3 := Tryz.zeroValue3
 t4 := Tryz.underlying4
 a4 := Tryz.isAgg4
 z4 := Tryz.sizeOf4
 v4 := Tryz.zeroValue4
 t5 := Tryz.underlying5
 a5 := Tryz.isAgg5
 z5 := Tryz.sizeOf5
 v5 := Tryz.zeroValue5
 t9 := Tryz.underlying9
 a9 := Tryz.isAgg9
 z9 := Tryz.sizeOf9
 v9 := Tryz.zeroValue9
 t20 := Tryz.underlying20
 a20 := Tryz.isAgg20
 z20 := Tryz.sizeOf20
 v20 := Tryz.zeroValue20
 t37 := Tryz.underlying155
 a37 := Tryz.isAgg155
 z37 := Tryz.sizeOf155
 v37 := Tryz.zeroValue155
 t46 := Tryz.underlying47
 a46 := Tryz.isAgg47
 z46 := Tryz.sizeOf47
 v46 := Tryz.zeroValue47
 t51 := Tryz.underlying290
 a51 := Tryz.isAgg290
 z51 := Tryz.sizeOf290
 v51 := Tryz.zeroValue290
 t53 := Tryz.underlying283
 a53 := Tryz.isAgg283
 z53 := Tryz.sizeOf283
 v53 := Tryz.zeroValue283
 t171 := Tryz.underlying282
 a171 := Tryz.isAgg282
 z171 := Tryz.sizeOf282
 v171 := Tryz.zeroValue282
 t173 := Tryz.underlying286
 a173 := Tryz.isAgg286
 z173 := Tryz.sizeOf286
 v173 := Tryz.zeroValue286
 t212 := Tryz.underlying299
 a212 := Tryz.isAgg299
 z212 := Tryz.sizeOf299
 v212 := Tryz.zeroValue299
 t213 := Tryz.underlying300
 a213 := Tryz.isAgg300
 z213 := Tryz.sizeOf300
 t232 := Tryz.underlying313
 a232 := Tryz.isAgg313
 z232 := Tryz.sizeOf313
 v232 := Tryz.zeroValue313
 t233 := Tryz.underlying314
 a233 := Tryz.isAgg314
 z233 := Tryz.sizeOf314
 v233 := Tryz.zeroValue314
 g17 := by kernel_rfl
 g18 := by kernel_rfl
 g19 := by kernel_rfl
 i0 := by kernel_rfl
 i2 := by kernel_rfl
 i3 := by kernel_rfl
 i4 := by kernel_rfl
 i5 := by kernel_rfl
 i9 := by kernel_rfl
 i20 := by kernel_rfl
 i37 := by kernel_rfl
 i46 := by kernel_rfl
 i51 := by kernel_rfl
 i53 := by kernel_rfl
 i171 := by kernel_rfl
 i173 := by kernel_rfl
 i212 := by kernel_rfl
 i232 := by kernel_rfl
 i233 := by kernel_rfl
 m17 := by kernel_rfl
 m18 := by kernel_rfl
 m19 := by kernel_rfl }
open Go.RowKit Go.Sort Go.Lib in
theorem Tryz.strconv_Itoa (n : Int) (h0 : -9223372036854775808 ≤ n) (h1 : n ≤ 9223372036854775807) (w : World) (htab : Lib.TabIs Tryz.prog w "internal/strconv.uint64pow10" .u64 Lib.pow10Tab) :
  Calls Tryz.prog 206 #[.int .i64 n] w fun e w' => e = .returned (.string ⟨(Lib.itoa n).toArray⟩) ∧ ∃ k os, w' = grow (w.drewN k) os := Any.strconv_Itoa Tryz.laysM171 n h0 h1 w htab
def Tryz.lays219_ren : Go.Shelf.Ren := ⟨fun | 219 => 261 | 217 => 209 | 225 => 282 | 224 => 283 | 267 => 284 | 266 => 253 | 314 => 303 | n => n, fun | 9 => 9 | 3 => 3 | 4 => 4 | 5 => 5 | 46 => 47 | 146 => 291 | 51 => 290 | n => n, fun | 1 => 4 | n => n⟩
theorem Tryz.lays219 : Go.Proofs.Lays.n219 Tryz.prog Tryz.lays219_ren := {
 mixed := by kernel_rfl
 f217 := Tryz.func209.trans (congrArg some (by kernel_rfl))
 f219 := Tryz.func261.trans (congrArg some (by kernel_rfl))
 f224 := Tryz.func283.trans (congrArg some (by kernel_rfl))
 f225 := Tryz.func282.trans (congrArg some (by kernel_rfl))
 f266 := Tryz.func253.trans (congrArg some (by kernel_rfl))
 f267 := Tryz.func284.trans (congrArg some (by kernel_rfl))
 f314 := Tryz.func303.trans (congrArg some (by kernel_rfl))
 t3 := Tryz.underlying3
 a3 := Tryz.isAgg3
 z3 := Tryz.sizeOf3
 v3 := Tryz.zeroValue3
 t4 := Tryz.underlying4
 a4 := Tryz.isAgg4
 z4 := Tryz.sizeOf4
 v4 := Tryz.zeroValue4
 t5 := Tryz.underlying5
 a5 := Tryz.isAgg5
 z5 := Tryz.sizeOf5
 v5 := Tryz.zeroValue5
 t9 := Tryz.underlying9
 a9 := Tryz.isAgg9
 z9 := Tryz.sizeOf9
 v9 := Tryz.zeroValue9
 t46 := Tryz.underlying47
 a46 := Tryz.isAgg47
 z46 := Tryz.sizeOf47
 v46 := Tryz.zeroValue47
 t51 := Tryz.underlying290
 a51 := Tryz.isAgg290
 z51 := Tryz.sizeOf290
 v51 := Tryz.zeroValue290
 t146 := Tryz.underlying291
 a146 := Tryz.isAgg291
 z146 := Tryz.sizeOf291
 v146 := Tryz.zeroValue291
 g1 := by kernel_rfl }
open Go.RowKit Go.Lib in
theorem Tryz.stringslite_Index_one (s : ByteArray) (c : UInt8) (w : World) :
  Calls Tryz.prog 261 #[.string s, .string ⟨#[c]⟩] w fun e w' => e = .returned (.int .i64 (Lib.indexByte s.data.toList c)) ∧ w' = w := Any.stringslite_Index_one Tryz.lays219 s c w
open Go.RowKit Go.Lib in
def Tryz.lays110_ren : Go.Shelf.Ren := ⟨fun | 110 => 68 | 109 => 106 | n => n, fun | 31 => 23 | 9 => 9 | 4 => 4 | 3 => 3 | 0 => 0 | n => n, fun | n => n⟩
theorem Tryz.lays110 : Go.Proofs.Lays.n110 Tryz.prog Tryz.lays110_ren := {
 mixed := by kernel_rfl
 f109 := Tryz.func106.trans (congrArg some (by kernel_rfl))
 f110 := Tryz.func68.trans (congrArg some (by kernel_rfl))
 t0 := Tryz.underlying0
 a0 := Tryz.isAgg0
 z0 := Tryz.sizeOf0
 v0 := Tryz.zeroValue0
 t3 := Tryz.underlying3
 a3 := Tryz.isAgg3
 z3 := Tryz.sizeOf3
 v3 := Tryz.zeroValue3
 t4 := Tryz.underlying4
 a4 := Tryz.isAgg4
 z4 := Tryz.sizeOf4
 v4 := Tryz.zeroValue4
 t9 := Tryz.underlying9
 a9 := Tryz.isAgg9
 z9 := Tryz.sizeOf9
 v9 := Tryz.zeroValue9
 t31 := Tryz.underlying23
 a31 := Tryz.isAgg23
 z31 := Tryz.sizeOf23
 v31 := Tryz.zeroValue23 }
open Go.Lib in
theorem Tryz.slices_Contains_string (b off n c : Nat) (zs : List ByteArray) (x : ByteArray) (w : World) (hz : n ≤ zs.length) (hbig : n ≤ 9223372036854775807) (hc : ∀ j, j < zs.length → w.cell? ⟨b, off + j, none⟩ = some (.string (zs.getD j ByteArray.empty))) :
  Calls Tryz.prog 68 #[.slice (some ⟨b, off, none⟩) n c, .string x] w fun e w' => e = .returned (.bool (Lib.containsS (zs.take n) x)) ∧ w' = w := Any.slices_Contains_string Tryz.lays110 b off n c zs x w hz hbig hc
end Go.Proofs
