/-
  DERIVED: THE SHELF's CONTRACTS AT THIS DUMP, IN PLAIN WORDS (tools/lay-plain.mjs out of 'TryzShelf.lean', which tools/lay-shelf.mjs wrote): THE SAME DECLARATIONS UNDER THE SAME NAMES: 'import', 'namespace', 'open', 'def', 'theorem' AND NOTHING ELSE: no command of the shelf's: FOR A HAND-IN. Each laying: the table of numbers ('.._ren') and one theorem, a field a fact of the dump's own or the kernel's comparison; each contract: ONE APPLICATION.
-/
import Derived.Shelf.Strings.Builder1
import Derived.Shelf.Strings.Builder2
import Derived.Shelf.Strings.OnBuilder
import Derived.Shelf.Small.Strs
import Derived.Shelf.Small.Wraps
import Derived.Shelf.Strings.BuilderF
import Derived.Shelf.Strings.BuilderK
import Derived.Shelf.Utf8.RuneCount
import Derived.Shelf.Strings.Builder2Cap
import Derived.Shelf.Strconv.Itoa0
import Derived.Shelf.Strconv.Itoa1
import Derived.Shelf.LaysM
import Derived.Shelf.Strconv.Itoa2
import Derived.Shelf.Strconv.Itoa3
import Derived.Shelf.Strings.Search1
import Derived.Shelf.Strings.Search2
import Derived.Shelf.Strings.Search3
import Derived.Shelf.Strings.Cut
import Derived.Shelf.Strings.Count
import Derived.Shelf.Strings.Shaped
import Derived.Shelf.Strings.Prefix
import Derived.Shelf.Strings.Split
import Derived.Shelf.Strings.Replace
import Derived.Shelf.Strings.SplitShaped
import Derived.Shelf.Unicode.Decode
import Derived.Shelf.Strings.RuneCount
import Derived.Shelf.Unicode.DecodeSlow
import Derived.Shelf.Strings.BuilderCap
import Derived.Shelf.Slices.Turned
import Derived.Test.YtlfedcbihbigoaaGreatDoorProg
namespace Go.Proofs
open Go.Shelf
def Tryz.lays156_ren : Go.Shelf.Ren := ⟨fun | 156 => 69 | 165 => 101 | 166 => 102 | 169 => 103 | 240 => 134 | 241 => 135 | 276 => 164 | 277 => 165 | n => n, fun | 31 => 46 | 9 => 9 | 3 => 3 | 4 => 4 | 0 => 0 | 20 => 20 | 72 => 136 | 76 => 140 | 70 => 134 | 37 => 129 | 75 => 139 | 127 => 171 | 164 => 184 | 5 => 5 | 80 => 142 | n => n, fun | n => n⟩
theorem Tryz.lays156 : Go.Proofs.Lays.n156 Tryz.prog Tryz.lays156_ren := {
  mixed := by kernel_rfl
  f156 := Tryz.func69.trans (congrArg some (by kernel_rfl))
  f165 := Tryz.func101.trans (congrArg some (by kernel_rfl))
  f166 := Tryz.func102.trans (congrArg some (by kernel_rfl))
  f169 := Tryz.func103.trans (congrArg some (by kernel_rfl))
  f240 := Tryz.func134.trans (congrArg some (by kernel_rfl))
  f241 := Tryz.func135.trans (congrArg some (by kernel_rfl))
  f276 := Tryz.func164.trans (congrArg some (by kernel_rfl))
  f277 := Tryz.func165.trans (congrArg some (by kernel_rfl))
  t0 := Tryz.underlying0
  a0 := Tryz.isAgg0
  z0 := Tryz.sizeOf0
  v0 := Tryz.zeroValue0
  t3 := Tryz.underlying3
  a3 := Tryz.isAgg3
  z3 := Tryz.sizeOf3
  v3 := Tryz.zeroValue3
  t4 := Tryz.underlying4
  a4 := Tryz.isAgg4
  z4 := Tryz.sizeOf4
  v4 := Tryz.zeroValue4
  t9 := Tryz.underlying9
  a9 := Tryz.isAgg9
  z9 := Tryz.sizeOf9
  v9 := Tryz.zeroValue9
  t20 := Tryz.underlying20
  a20 := Tryz.isAgg20
  z20 := Tryz.sizeOf20
  v20 := Tryz.zeroValue20
  t31 := Tryz.underlying46
  a31 := Tryz.isAgg46
  z31 := Tryz.sizeOf46
  v31 := Tryz.zeroValue46
  t37 := Tryz.underlying129
  a37 := Tryz.isAgg129
  z37 := Tryz.sizeOf129
  v37 := Tryz.zeroValue129
  t70 := Tryz.underlying134
  a70 := Tryz.isAgg134
  z70 := Tryz.sizeOf134
  v70 := Tryz.zeroValue134
  t72 := Tryz.underlying136
  a72 := Tryz.isAgg136
  z72 := Tryz.sizeOf136
  v72 := Tryz.zeroValue136
  t75 := Tryz.underlying139
  a75 := Tryz.isAgg139
  z75 := Tryz.sizeOf139
  v75 := Tryz.zeroValue139
  t76 := Tryz.underlying140
  a76 := Tryz.isAgg140
  z76 := Tryz.sizeOf140
  v76 := Tryz.zeroValue140
  t127 := Tryz.underlying171
  a127 := Tryz.isAgg171
  z127 := Tryz.sizeOf171
  v127 := Tryz.zeroValue171
  t164 := Tryz.underlying184
  a164 := Tryz.isAgg184
  z164 := Tryz.sizeOf184
  v164 := Tryz.zeroValue184 }
theorem Tryz.Builder_Extra_156 : Builder.Extra Tryz.prog Tryz.lays156_ren := {
  sizeBuilder := by kernel_rfl
  liesBuilder := by kernel_rfl
  t5 := Tryz.underlying5
  a5 := Tryz.isAgg5
  z5 := Tryz.sizeOf5
  v5 := Tryz.zeroValue5
  infoByte := by kernel_rfl
  cellsByte := by kernel_rfl
  sizeByte := by kernel_rfl
  neB5 := by decide }
open Go.RowKit in
/-- No element: the empty string; the world is as it was. (Whatever the slice's address and capacity: a nil slice too.) (LAID: no walk: one application.) -/
theorem Tryz.strings_Join_none (a : Option Addr) (c : Nat) (sep : ByteArray) (w : World) :
    Calls Tryz.prog 69 #[.slice a 0 c, .string sep] w fun e w' => e = .returned (.string ⟨#[]⟩) ∧ w' = w := Any.strings_Join_none Tryz.lays156 Tryz.Builder_Extra_156 a c sep w
open Go.RowKit in
/-- strings.Join: "Join concatenates the elements of its first argument to create a single string. The separator string sep is placed between elements in the resulting string.": HOWEVER MANY ELEMENTS. Below the heap's end the world is as it was. (LAID: no walk: one application.) -/
theorem Tryz.strings_Join (bk o c : Nat) (xs : List ByteArray) (sep : ByteArray) (w : World) (hcells : ∀ (j : Nat) x, xs[j]? = some x → w.cell? ⟨bk, o + j, none⟩ = some (.string x)) (hbk : bk < w.heap.size) (hN : xs.length ≤ 140737488355328) (hcap : xs.length ≤ c) (hlen : (Lib.join (xs.map (·.data.toList)) sep.data.toList).length ≤ 140737488355328) :
    Calls Tryz.prog 69 #[.slice (some ⟨bk, o, none⟩) xs.length c, .string sep] w fun e w' => e = .returned (.string ⟨(Lib.join (xs.map (·.data.toList)) sep.data.toList).toArray⟩) ∧ Below w.heap.size w w' := Any.strings_Join Tryz.lays156 Tryz.Builder_Extra_156 bk o c xs sep w hcells hbk hN hcap hlen
def Tryz.lays137_ren : Go.Shelf.Ren := ⟨fun | 137 => 75 | 217 => 108 | 266 => 136 | n => n, fun | 9 => 9 | 5 => 5 | 3 => 3 | n => n, fun | n => n⟩
theorem Tryz.lays137 : Go.Proofs.Lays.n137 Tryz.prog Tryz.lays137_ren := {
  mixed := by kernel_rfl
  f137 := Tryz.func75.trans (congrArg some (by kernel_rfl))
  f217 := Tryz.func108.trans (congrArg some (by kernel_rfl))
  f266 := Tryz.func136.trans (congrArg some (by kernel_rfl))
  t3 := Tryz.underlying3
  a3 := Tryz.isAgg3
  z3 := Tryz.sizeOf3
  v3 := Tryz.zeroValue3
  t5 := Tryz.underlying5
  a5 := Tryz.isAgg5
  z5 := Tryz.sizeOf5
  v5 := Tryz.zeroValue5
  t9 := Tryz.underlying9
  a9 := Tryz.isAgg9
  z9 := Tryz.sizeOf9
  v9 := Tryz.zeroValue9 }
open Go.RowKit in
/-- strings.IndexByte: "IndexByte returns the index of the first instance of c in s, or -1 if c is not present in s.": IT RETURNS 'Lib.indexByte s c'; the world is as it was. (LAID: no walk: one application.) -/
theorem Tryz.strings_IndexByte (s : ByteArray) (c : Int) (w : World) :
    Calls Tryz.prog 75 #[.string s, .int .u8 c] w fun e w' => e = .returned (.int .i64 (Lib.indexByte s.data.toList c.toNat.toUInt8)) ∧ w' = w := Any.strings_IndexByte Tryz.lays137 s c w
def Tryz.lays121_ren : Go.Shelf.Ren := ⟨fun | 121 => 97 | 214 => 129 | n => n, fun | 4 => 4 | 9 => 9 | n => n, fun | n => n⟩
theorem Tryz.lays121 : Go.Proofs.Lays.n121 Tryz.prog Tryz.lays121_ren := {
  mixed := by kernel_rfl
  f121 := Tryz.func97.trans (congrArg some (by kernel_rfl))
  f214 := Tryz.func129.trans (congrArg some (by kernel_rfl))
  t4 := Tryz.underlying4
  a4 := Tryz.isAgg4
  z4 := Tryz.sizeOf4
  v4 := Tryz.zeroValue4
  t9 := Tryz.underlying9
  a9 := Tryz.isAgg9
  z9 := Tryz.sizeOf9
  v9 := Tryz.zeroValue9 }
open Go.RowKit in
/-- strconv.FormatBool: "FormatBool returns "true" or "false" according to the value of b.": IT RETURNS 'Lib.formatBool b'; the world is as it was. (LAID: no walk: one application.) -/
theorem Tryz.strconv_FormatBool (b : Bool) (w : World) :
    Calls Tryz.prog 97 #[.bool b] w fun e w' => e = .returned (.string ⟨(Lib.formatBool b).toArray⟩) ∧ w' = w := Any.strconv_FormatBool Tryz.lays121 b w
def Tryz.laysM171_ren : Go.Shelf.Ren := ⟨fun | 171 => 98 | 243 => 130 | 246 => 158 | 283 => 171 | 284 => 172 | 285 => 173 | 286 => 174 | 129 => 185 | 317 => 184 | 318 => 186 | 319 => 187 | 320 => 188 | 337 => 191 | 338 => 192 | n => n, fun | 3 => 3 | 9 => 9 | 2 => 2 | 4 => 4 | 171 => 190 | 0 => 0 | 53 => 191 | 37 => 129 | 5 => 5 | 173 => 194 | 212 => 199 | 51 => 200 | 20 => 20 | 213 => 201 | 46 => 32 | 232 => 210 | 233 => 211 | n => n, fun | 17 => 4 | 18 => 7 | 19 => 8 | n => n⟩
theorem Tryz.laysM171 : Go.Proofs.LaysM.n171 Tryz.prog Tryz.laysM171_ren := {
  mixed := by kernel_rfl
  f129 := Tryz.func185.trans (congrArg some (by kernel_rfl))
  f171 := Tryz.func98.trans (congrArg some (by kernel_rfl))
  f243 := Tryz.func130.trans (congrArg some (by kernel_rfl))
  f246 := Tryz.func158.trans (congrArg some (by kernel_rfl))
  f283 := Tryz.func171.trans (congrArg some (by kernel_rfl))
  f284 := Tryz.func172.trans (congrArg some (by kernel_rfl))
  f285 := Tryz.func173.trans (congrArg some (by kernel_rfl))
  f286 := Tryz.func174.trans (congrArg some (by kernel_rfl))
  f317 := Tryz.func184.trans (congrArg some (by kernel_rfl))
  f318 := Tryz.func186.trans (congrArg some (by kernel_rfl))
  f319 := Tryz.func187.trans (congrArg some (by kernel_rfl))
  f320 := Tryz.func188.trans (congrArg some (by kernel_rfl))
  f337 := Tryz.func191.trans (congrArg some (by kernel_rfl))
  f338 := Tryz.func192.trans (congrArg some (by kernel_rfl))
  t0 := Tryz.underlying0
  a0 := Tryz.isAgg0
  z0 := Tryz.sizeOf0
  v0 := Tryz.zeroValue0
  t2 := Tryz.underlying2
  a2 := Tryz.isAgg2
  z2 := Tryz.sizeOf2
  v2 := Tryz.zeroValue2
  t3 := Tryz.underlying3
  a3 := Tryz.isAgg3
  z3 := Tryz.sizeOf3
  v3 := Tryz.zeroValue3
  t4 := Tryz.underlying4
  a4 := Tryz.isAgg4
  z4 := Tryz.sizeOf4
  v4 := Tryz.zeroValue4
  t5 := Tryz.underlying5
  a5 := Tryz.isAgg5
  z5 := Tryz.sizeOf5
  v5 := Tryz.zeroValue5
  t9 := Tryz.underlying9
  a9 := Tryz.isAgg9
  z9 := Tryz.sizeOf9
  v9 := Tryz.zeroValue9
  t20 := Tryz.underlying20
  a20 := Tryz.isAgg20
  z20 := Tryz.sizeOf20
  v20 := Tryz.zeroValue20
  t37 := Tryz.underlying129
  a37 := Tryz.isAgg129
  z37 := Tryz.sizeOf129
  v37 := Tryz.zeroValue129
  t46 := Tryz.underlying32
  a46 := Tryz.isAgg32
  z46 := Tryz.sizeOf32
  v46 := Tryz.zeroValue32
  t51 := Tryz.underlying200
  a51 := Tryz.isAgg200
  z51 := Tryz.sizeOf200
  v51 := Tryz.zeroValue200
  t53 := Tryz.underlying191
  a53 := Tryz.isAgg191
  z53 := Tryz.sizeOf191
  v53 := Tryz.zeroValue191
  t171 := Tryz.underlying190
  a171 := Tryz.isAgg190
  z171 := Tryz.sizeOf190
  v171 := Tryz.zeroValue190
  t173 := Tryz.underlying194
  a173 := Tryz.isAgg194
  z173 := Tryz.sizeOf194
  v173 := Tryz.zeroValue194
  t212 := Tryz.underlying199
  a212 := Tryz.isAgg199
  z212 := Tryz.sizeOf199
  v212 := Tryz.zeroValue199
  t213 := Tryz.underlying201
  a213 := Tryz.isAgg201
  z213 := Tryz.sizeOf201
  t232 := Tryz.underlying210
  a232 := Tryz.isAgg210
  z232 := Tryz.sizeOf210
  v232 := Tryz.zeroValue210
  t233 := Tryz.underlying211
  a233 := Tryz.isAgg211
  z233 := Tryz.sizeOf211
  v233 := Tryz.zeroValue211
  g17 := by kernel_rfl
  g18 := by kernel_rfl
  g19 := by kernel_rfl
  i0 := by kernel_rfl
  i2 := by kernel_rfl
  i3 := by kernel_rfl
  i4 := by kernel_rfl
  i5 := by kernel_rfl
  i9 := by kernel_rfl
  i20 := by kernel_rfl
  i37 := by kernel_rfl
  i46 := by kernel_rfl
  i51 := by kernel_rfl
  i53 := by kernel_rfl
  i171 := by kernel_rfl
  i173 := by kernel_rfl
  i212 := by kernel_rfl
  i232 := by kernel_rfl
  i233 := by kernel_rfl
  m17 := by kernel_rfl
  m18 := by kernel_rfl
  m19 := by kernel_rfl }
open Go.RowKit Go.Sort Go.Lib in
/-- strconv.Itoa: "Itoa is equivalent to FormatInt(int64(i), 10).": i's DECIMAL NUMERAL ('Lib.itoa': a '-' where i is negative, then the digits), FOR EVERY int. The world behind the call: the world before it, new blocks behind the heap (the library's 'var a [24]byte'), draws. (LAID: no walk: one application.) -/
theorem Tryz.strconv_Itoa (n : Int) (h0 : -9223372036854775808 ≤ n) (h1 : n ≤ 9223372036854775807) (w : World) (htab : Lib.TabIs Tryz.prog w "internal/strconv.uint64pow10" .u64 Lib.pow10Tab) :
    Calls Tryz.prog 98 #[.int .i64 n] w fun e w' => e = .returned (.string ⟨(Lib.itoa n).toArray⟩) ∧ ∃ k os, w' = grow (w.drewN k) os := Any.strconv_Itoa Tryz.laysM171 n h0 h1 w htab
def Tryz.lays219_ren : Go.Shelf.Ren := ⟨fun | 219 => 167 | 217 => 108 | 225 => 179 | 224 => 180 | 267 => 181 | 266 => 136 | 314 => 189 | n => n, fun | 9 => 9 | 3 => 3 | 4 => 4 | 5 => 5 | 46 => 32 | 146 => 207 | 51 => 200 | n => n, fun | 1 => 2 | n => n⟩
theorem Tryz.lays219 : Go.Proofs.Lays.n219 Tryz.prog Tryz.lays219_ren := {
  mixed := by kernel_rfl
  f217 := Tryz.func108.trans (congrArg some (by kernel_rfl))
  f219 := Tryz.func167.trans (congrArg some (by kernel_rfl))
  f224 := Tryz.func180.trans (congrArg some (by kernel_rfl))
  f225 := Tryz.func179.trans (congrArg some (by kernel_rfl))
  f266 := Tryz.func136.trans (congrArg some (by kernel_rfl))
  f267 := Tryz.func181.trans (congrArg some (by kernel_rfl))
  f314 := Tryz.func189.trans (congrArg some (by kernel_rfl))
  t3 := Tryz.underlying3
  a3 := Tryz.isAgg3
  z3 := Tryz.sizeOf3
  v3 := Tryz.zeroValue3
  t4 := Tryz.underlying4
  a4 := Tryz.isAgg4
  z4 := Tryz.sizeOf4
  v4 := Tryz.zeroValue4
  t5 := Tryz.underlying5
  a5 := Tryz.isAgg5
  z5 := Tryz.sizeOf5
  v5 := Tryz.zeroValue5
  t9 := Tryz.underlying9
  a9 := Tryz.isAgg9
  z9 := Tryz.sizeOf9
  v9 := Tryz.zeroValue9
  t46 := Tryz.underlying32
  a46 := Tryz.isAgg32
  z46 := Tryz.sizeOf32
  v46 := Tryz.zeroValue32
  t51 := Tryz.underlying200
  a51 := Tryz.isAgg200
  z51 := Tryz.sizeOf200
  v51 := Tryz.zeroValue200
  t146 := Tryz.underlying207
  a146 := Tryz.isAgg207
  z146 := Tryz.sizeOf207
  v146 := Tryz.zeroValue207
  g1 := by kernel_rfl }
open Go.RowKit Go.Lib in
/-- internal/stringslite.Index (what strings.Index calls) AT A substr OF ONE BYTE c: IT RETURNS 'Lib.indexByte s c'; the world is as it was. (LAID: no walk: one application.) -/
theorem Tryz.stringslite_Index_one (s : ByteArray) (c : UInt8) (w : World) :
    Calls Tryz.prog 167 #[.string s, .string ⟨#[c]⟩] w fun e w' => e = .returned (.int .i64 (Lib.indexByte s.data.toList c)) ∧ w' = w := Any.stringslite_Index_one Tryz.lays219 s c w
def Tryz.lays155_ren : Go.Shelf.Ren := ⟨fun | 155 => 99 | 154 => 131 | 138 => 159 | 165 => 101 | 143 => 160 | 166 => 102 | 197 => 161 | 169 => 103 | 195 => 175 | 218 => 176 | 240 => 134 | 241 => 135 | 219 => 167 | 260 => 177 | 276 => 164 | 277 => 165 | 217 => 108 | 225 => 179 | 224 => 180 | 267 => 181 | 266 => 136 | 314 => 189 | n => n, fun | 9 => 9 | 3 => 3 | 4 => 4 | 72 => 136 | 0 => 0 | 76 => 140 | 105 => 182 | 21 => 21 | 5 => 5 | 70 => 134 | 20 => 20 | 37 => 129 | 75 => 139 | 127 => 171 | 164 => 184 | 46 => 32 | 119 => 203 | 139 => 206 | 138 => 205 | 146 => 207 | 51 => 200 | 80 => 142 | n => n, fun | 1 => 2 | 3 => 5 | 4 => 6 | n => n⟩
theorem Tryz.lays155 : Go.Proofs.Lays.n155 Tryz.prog Tryz.lays155_ren := {
  mixed := by kernel_rfl
  f138 := Tryz.func159.trans (congrArg some (by kernel_rfl))
  f143 := Tryz.func160.trans (congrArg some (by kernel_rfl))
  f154 := Tryz.func131.trans (congrArg some (by kernel_rfl))
  f155 := Tryz.func99.trans (congrArg some (by kernel_rfl))
  f165 := Tryz.func101.trans (congrArg some (by kernel_rfl))
  f166 := Tryz.func102.trans (congrArg some (by kernel_rfl))
  f169 := Tryz.func103.trans (congrArg some (by kernel_rfl))
  f195 := Tryz.func175.trans (congrArg some (by kernel_rfl))
  f197 := Tryz.func161.trans (congrArg some (by kernel_rfl))
  f217 := Tryz.func108.trans (congrArg some (by kernel_rfl))
  f218 := Tryz.func176.trans (congrArg some (by kernel_rfl))
  f219 := Tryz.func167.trans (congrArg some (by kernel_rfl))
  f224 := Tryz.func180.trans (congrArg some (by kernel_rfl))
  f225 := Tryz.func179.trans (congrArg some (by kernel_rfl))
  f240 := Tryz.func134.trans (congrArg some (by kernel_rfl))
  f241 := Tryz.func135.trans (congrArg some (by kernel_rfl))
  f260 := Tryz.func177.trans (congrArg some (by kernel_rfl))
  f266 := Tryz.func136.trans (congrArg some (by kernel_rfl))
  f267 := Tryz.func181.trans (congrArg some (by kernel_rfl))
  f276 := Tryz.func164.trans (congrArg some (by kernel_rfl))
  f277 := Tryz.func165.trans (congrArg some (by kernel_rfl))
  f314 := Tryz.func189.trans (congrArg some (by kernel_rfl))
  t0 := Tryz.underlying0
  a0 := Tryz.isAgg0
  z0 := Tryz.sizeOf0
  v0 := Tryz.zeroValue0
  t3 := Tryz.underlying3
  a3 := Tryz.isAgg3
  z3 := Tryz.sizeOf3
  v3 := Tryz.zeroValue3
  t4 := Tryz.underlying4
  a4 := Tryz.isAgg4
  z4 := Tryz.sizeOf4
  v4 := Tryz.zeroValue4
  t5 := Tryz.underlying5
  a5 := Tryz.isAgg5
  z5 := Tryz.sizeOf5
  v5 := Tryz.zeroValue5
  t9 := Tryz.underlying9
  a9 := Tryz.isAgg9
  z9 := Tryz.sizeOf9
  v9 := Tryz.zeroValue9
  t20 := Tryz.underlying20
  a20 := Tryz.isAgg20
  z20 := Tryz.sizeOf20
  v20 := Tryz.zeroValue20
  t21 := Tryz.underlying21
  a21 := Tryz.isAgg21
  z21 := Tryz.sizeOf21
  v21 := Tryz.zeroValue21
  t37 := Tryz.underlying129
  a37 := Tryz.isAgg129
  z37 := Tryz.sizeOf129
  v37 := Tryz.zeroValue129
  t46 := Tryz.underlying32
  a46 := Tryz.isAgg32
  z46 := Tryz.sizeOf32
  v46 := Tryz.zeroValue32
  t51 := Tryz.underlying200
  a51 := Tryz.isAgg200
  z51 := Tryz.sizeOf200
  v51 := Tryz.zeroValue200
  t70 := Tryz.underlying134
  a70 := Tryz.isAgg134
  z70 := Tryz.sizeOf134
  v70 := Tryz.zeroValue134
  t72 := Tryz.underlying136
  a72 := Tryz.isAgg136
  z72 := Tryz.sizeOf136
  v72 := Tryz.zeroValue136
  t75 := Tryz.underlying139
  a75 := Tryz.isAgg139
  z75 := Tryz.sizeOf139
  v75 := Tryz.zeroValue139
  t76 := Tryz.underlying140
  a76 := Tryz.isAgg140
  z76 := Tryz.sizeOf140
  v76 := Tryz.zeroValue140
  t105 := Tryz.underlying182
  a105 := Tryz.isAgg182
  z105 := Tryz.sizeOf182
  v105 := Tryz.zeroValue182
  t119 := Tryz.underlying203
  a119 := Tryz.isAgg203
  z119 := Tryz.sizeOf203
  t127 := Tryz.underlying171
  a127 := Tryz.isAgg171
  z127 := Tryz.sizeOf171
  v127 := Tryz.zeroValue171
  t138 := Tryz.underlying205
  a138 := Tryz.isAgg205
  z138 := Tryz.sizeOf205
  v138 := Tryz.zeroValue205
  t139 := Tryz.underlying206
  a139 := Tryz.isAgg206
  z139 := Tryz.sizeOf206
  v139 := Tryz.zeroValue206
  t146 := Tryz.underlying207
  a146 := Tryz.isAgg207
  z146 := Tryz.sizeOf207
  v146 := Tryz.zeroValue207
  t164 := Tryz.underlying184
  a164 := Tryz.isAgg184
  z164 := Tryz.sizeOf184
  v164 := Tryz.zeroValue184
  g1 := by kernel_rfl
  g3 := by kernel_rfl
  g4 := by kernel_rfl }
theorem Tryz.Builder_Extra_155 : Builder.Extra Tryz.prog Tryz.lays155_ren := {
  sizeBuilder := by kernel_rfl
  liesBuilder := by kernel_rfl
  t5 := Tryz.underlying5
  a5 := Tryz.isAgg5
  z5 := Tryz.sizeOf5
  v5 := Tryz.zeroValue5
  infoByte := by kernel_rfl
  cellsByte := by kernel_rfl
  sizeByte := by kernel_rfl
  neB5 := by decide }
open Go.RowKit Go.Lib in
/-- strings.ReplaceAll: "ReplaceAll returns a copy of the string s with all non-overlapping instances of old replaced by new.": AT AN old THAT IS NOT EMPTY: 'Lib.replaceAll s old new'. (LAID: no walk: one application.) -/
theorem Tryz.strings_ReplaceAll (s old new : ByteArray) (m : Int) (w : World) (hs : s.size < 4294967281) (hm : w.cell? ⟨2, 0, none⟩ = some (.int .i64 m)) (h1 : 1 ≤ old.size) (hlen : s.size + Lib.countB s old * new.size ≤ 140737488355328) :
    Calls Tryz.prog 99 #[.string s, .string old, .string new] w fun e w' =>
      e = .returned (.string ⟨(Lib.replaceAll s.data.toList old.data.toList new.data.toList).toArray⟩) ∧ Below w.heap.size w w' := Any.strings_ReplaceAll Tryz.lays155 Tryz.Builder_Extra_155 s old new m w hs hm h1 hlen
def Tryz.lays109_ren : Go.Shelf.Ren := ⟨fun | 109 => 121 | n => n, fun | 31 => 46 | 9 => 9 | 3 => 3 | 0 => 0 | 4 => 4 | n => n, fun | n => n⟩
theorem Tryz.lays109 : Go.Proofs.Lays.n109 Tryz.prog Tryz.lays109_ren := {
  mixed := by kernel_rfl
  f109 := Tryz.func121.trans (congrArg some (by kernel_rfl))
  t0 := Tryz.underlying0
  a0 := Tryz.isAgg0
  z0 := Tryz.sizeOf0
  v0 := Tryz.zeroValue0
  t3 := Tryz.underlying3
  a3 := Tryz.isAgg3
  z3 := Tryz.sizeOf3
  v3 := Tryz.zeroValue3
  t4 := Tryz.underlying4
  a4 := Tryz.isAgg4
  z4 := Tryz.sizeOf4
  v4 := Tryz.zeroValue4
  t9 := Tryz.underlying9
  a9 := Tryz.isAgg9
  z9 := Tryz.sizeOf9
  v9 := Tryz.zeroValue9
  t31 := Tryz.underlying46
  a31 := Tryz.isAgg46
  z31 := Tryz.sizeOf46
  v31 := Tryz.zeroValue46 }
open Go.Lib in
/-- slices.Index at []string: "Index returns the index of the first occurrence of v in s, or -1 if not present.": IT RETURNS 'Lib.idxOfS (the elements) v'; the world is as it was. 'zs': what the cells behind the slice's address hold (its spare capacity too, if you have it); 'zs.take n': its elements. (LAID: no walk: one application.) -/
theorem Tryz.slices_Index_string (b off n c : Nat) (zs : List ByteArray) (x : ByteArray) (w : World) (hz : n ≤ zs.length) (hbig : n ≤ 9223372036854775807) (hc : ∀ j, j < zs.length → w.cell? ⟨b, off + j, none⟩ = some (.string (zs.getD j ByteArray.empty))) :
    Calls Tryz.prog 121 #[.slice (some ⟨b, off, none⟩) n c, .string x] w fun e w' => e = .returned (.int .i64 (Lib.idxOfS (zs.take n) x)) ∧ w' = w := Any.slices_Index_string Tryz.lays109 b off n c zs x w hz hbig hc
open Go.Lib in
/-- The same at a slice of length 0, a nil one too: no cell is known, none is asked for. (LAID: no walk: one application.) -/
theorem Tryz.slices_Index_string_empty (a : Option Addr) (c : Nat) (x : ByteArray) (w : World) :
    Calls Tryz.prog 121 #[.slice a 0 c, .string x] w fun e w' => e = .returned (.int .i64 (Lib.idxOfS [] x)) ∧ w' = w := Any.slices_Index_string_empty Tryz.lays109 a c x w
def Tryz.lays110_ren : Go.Shelf.Ren := ⟨fun | 110 => 84 | 109 => 121 | n => n, fun | 31 => 46 | 9 => 9 | 4 => 4 | 3 => 3 | 0 => 0 | n => n, fun | n => n⟩
theorem Tryz.lays110 : Go.Proofs.Lays.n110 Tryz.prog Tryz.lays110_ren := {
  mixed := by kernel_rfl
  f109 := Tryz.func121.trans (congrArg some (by kernel_rfl))
  f110 := Tryz.func84.trans (congrArg some (by kernel_rfl))
  t0 := Tryz.underlying0
  a0 := Tryz.isAgg0
  z0 := Tryz.sizeOf0
  v0 := Tryz.zeroValue0
  t3 := Tryz.underlying3
  a3 := Tryz.isAgg3
  z3 := Tryz.sizeOf3
  v3 := Tryz.zeroValue3
  t4 := Tryz.underlying4
  a4 := Tryz.isAgg4
  z4 := Tryz.sizeOf4
  v4 := Tryz.zeroValue4
  t9 := Tryz.underlying9
  a9 := Tryz.isAgg9
  z9 := Tryz.sizeOf9
  v9 := Tryz.zeroValue9
  t31 := Tryz.underlying46
  a31 := Tryz.isAgg46
  z31 := Tryz.sizeOf46
  v31 := Tryz.zeroValue46 }
open Go.Lib in
/-- slices.Contains at []string: "Contains reports whether v is present in s.": IT RETURNS 'Lib.containsS (the elements) v', which is true just where v is among them ('Lib.containsS_iff'); the world is as it was. ITS CALLEE slices.Index IS MET BY ITS OWN CONTRACT OFF THE SHELF (lay that first): no loop is walked here. (LAID: no walk: one application.) -/
theorem Tryz.slices_Contains_string (b off n c : Nat) (zs : List ByteArray) (x : ByteArray) (w : World) (hz : n ≤ zs.length) (hbig : n ≤ 9223372036854775807) (hc : ∀ j, j < zs.length → w.cell? ⟨b, off + j, none⟩ = some (.string (zs.getD j ByteArray.empty))) :
    Calls Tryz.prog 84 #[.slice (some ⟨b, off, none⟩) n c, .string x] w fun e w' => e = .returned (.bool (Lib.containsS (zs.take n) x)) ∧ w' = w := Any.slices_Contains_string Tryz.lays110 b off n c zs x w hz hbig hc
end Go.Proofs
