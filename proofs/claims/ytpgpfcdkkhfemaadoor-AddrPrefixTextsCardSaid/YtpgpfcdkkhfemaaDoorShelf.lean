/-
  DERIVED: THE SHELF's CONTRACTS AT THIS DUMP, IN PLAIN WORDS (tools/lay-plain.mjs out of 'TrydShelf.lean', which tools/lay-shelf.mjs wrote): THE SAME DECLARATIONS UNDER THE SAME NAMES: 'import', 'namespace', 'open', 'def', 'theorem' AND NOTHING ELSE: no command of the shelf's: FOR A HAND-IN. Each laying: the table of numbers ('.._ren') and one theorem, a field a fact of the dump's own or the kernel's comparison; each contract: ONE APPLICATION.
-/
import Derived.Shelf.Strings.Builder1
import Derived.Shelf.Strings.Builder2
import Derived.Shelf.Strings.OnBuilder
import Derived.Shelf.Strings.Trim
import Derived.Shelf.Small.Utf8
import Derived.Shelf.Small.Bits
import Derived.Shelf.Small.Strs
import Derived.Shelf.Strconv.Atoi
import Derived.Shelf.Strconv.Itoa0
import Derived.Shelf.Strconv.Itoa1
import Derived.Shelf.LaysM
import Derived.Shelf.Strconv.Itoa2
import Derived.Shelf.Strconv.Itoa3
import Derived.Shelf.Strconv.AtoiErrFast
import Derived.Shelf.Strconv.ParseIntEmpty
import Derived.Shelf.Strconv.AtoiFail
import Derived.Shelf.Strconv.Clone
import Derived.Shelf.Strconv.SyntaxError
import Derived.Shelf.LaysC
import Derived.Shelf.Strconv.ToError
import Derived.Shelf.Strconv.Lower
import Derived.Shelf.Strconv.ParseUint10
import Derived.Shelf.Strconv.ParseUint10Empty
import Derived.Shelf.Strconv.ParseUint10Any
import Derived.Shelf.Strconv.ParseInt10
import Derived.Shelf.Strconv.AtoiLong
import Derived.Shelf.Strconv.AtoiInnerAll
import Derived.Shelf.Strconv.RangeError
import Derived.Shelf.Strconv.ToErrorRange
import Derived.Shelf.Strconv.AtoiAll
import Derived.Shelf.Strings.Search1
import Derived.Shelf.Strings.Search2
import Derived.Shelf.Strings.Search3
import Derived.Shelf.Strings.Cut
import Derived.Shelf.Strings.Count
import Derived.Shelf.Strings.Shaped
import Derived.Shelf.Strings.Split
import Derived.Shelf.Strings.Runes
import Derived.Shelf.Strings.AsciiSet
import Derived.Shelf.Unicode.DecodeSlow
import Derived.Test.YtpgpfcdkkhfemaaDoorProg
namespace Go.Proofs
open Go.Shelf
def Tryd.lays156_ren : Go.Shelf.Ren := ⟨fun | 156 => 85 | 165 => 110 | 166 => 99 | 169 => 101 | 240 => 120 | 241 => 126 | 276 => 136 | 277 => 144 | n => n, fun | 31 => 119 | 9 => 9 | 3 => 3 | 4 => 4 | 0 => 0 | 20 => 20 | 72 => 103 | 76 => 135 | 70 => 100 | 37 => 101 | 75 => 134 | 127 => 160 | 164 => 174 | 5 => 5 | 80 => 116 | n => n, fun | n => n⟩
theorem Tryd.lays156 : Go.Proofs.Lays.n156 Tryd.prog Tryd.lays156_ren := {
  mixed := by kernel_rfl
  f156 := Tryd.func85.trans (congrArg some (by kernel_rfl))
  f165 := Tryd.func110.trans (congrArg some (by kernel_rfl))
  f166 := Tryd.func99.trans (congrArg some (by kernel_rfl))
  f169 := Tryd.func101.trans (congrArg some (by kernel_rfl))
  f240 := Tryd.func120.trans (congrArg some (by kernel_rfl))
  f241 := Tryd.func126.trans (congrArg some (by kernel_rfl))
  f276 := Tryd.func136.trans (congrArg some (by kernel_rfl))
  f277 := Tryd.func144.trans (congrArg some (by kernel_rfl))
  t0 := Tryd.underlying0
  a0 := Tryd.isAgg0
  z0 := Tryd.sizeOf0
  v0 := Tryd.zeroValue0
  t3 := Tryd.underlying3
  a3 := Tryd.isAgg3
  z3 := Tryd.sizeOf3
  v3 := Tryd.zeroValue3
  t4 := Tryd.underlying4
  a4 := Tryd.isAgg4
  z4 := Tryd.sizeOf4
  v4 := Tryd.zeroValue4
  t9 := Tryd.underlying9
  a9 := Tryd.isAgg9
  z9 := Tryd.sizeOf9
  v9 := Tryd.zeroValue9
  t20 := Tryd.underlying20
  a20 := Tryd.isAgg20
  z20 := Tryd.sizeOf20
  v20 := Tryd.zeroValue20
  t31 := Tryd.underlying119
  a31 := Tryd.isAgg119
  z31 := Tryd.sizeOf119
  v31 := Tryd.zeroValue119
  t37 := Tryd.underlying101
  a37 := Tryd.isAgg101
  z37 := Tryd.sizeOf101
  v37 := Tryd.zeroValue101
  t70 := Tryd.underlying100
  a70 := Tryd.isAgg100
  z70 := Tryd.sizeOf100
  v70 := Tryd.zeroValue100
  t72 := Tryd.underlying103
  a72 := Tryd.isAgg103
  z72 := Tryd.sizeOf103
  v72 := Tryd.zeroValue103
  t75 := Tryd.underlying134
  a75 := Tryd.isAgg134
  z75 := Tryd.sizeOf134
  v75 := Tryd.zeroValue134
  t76 := Tryd.underlying135
  a76 := Tryd.isAgg135
  z76 := Tryd.sizeOf135
  v76 := Tryd.zeroValue135
  t127 := Tryd.underlying160
  a127 := Tryd.isAgg160
  z127 := Tryd.sizeOf160
  v127 := Tryd.zeroValue160
  t164 := Tryd.underlying174
  a164 := Tryd.isAgg174
  z164 := Tryd.sizeOf174
  v164 := Tryd.zeroValue174 }
theorem Tryd.Builder_Extra_156 : Builder.Extra Tryd.prog Tryd.lays156_ren := {
  sizeBuilder := by kernel_rfl
  liesBuilder := by kernel_rfl
  t5 := Tryd.underlying5
  a5 := Tryd.isAgg5
  z5 := Tryd.sizeOf5
  v5 := Tryd.zeroValue5
  infoByte := by kernel_rfl
  cellsByte := by kernel_rfl
  sizeByte := by kernel_rfl
  neB5 := by decide }
open Go.RowKit in
/-- No element: the empty string; the world is as it was. (Whatever the slice's address and capacity: a nil slice too.) (LAID: no walk: one application.) -/
theorem Tryd.strings_Join_none (a : Option Addr) (c : Nat) (sep : ByteArray) (w : World) :
    Calls Tryd.prog 85 #[.slice a 0 c, .string sep] w fun e w' => e = .returned (.string ⟨#[]⟩) ∧ w' = w := Any.strings_Join_none Tryd.lays156 Tryd.Builder_Extra_156 a c sep w
open Go.RowKit in
/-- strings.Join: "Join concatenates the elements of its first argument to create a single string. The separator string sep is placed between elements in the resulting string.": HOWEVER MANY ELEMENTS. Below the heap's end the world is as it was. (LAID: no walk: one application.) -/
theorem Tryd.strings_Join (bk o c : Nat) (xs : List ByteArray) (sep : ByteArray) (w : World) (hcells : ∀ (j : Nat) x, xs[j]? = some x → w.cell? ⟨bk, o + j, none⟩ = some (.string x)) (hbk : bk < w.heap.size) (hN : xs.length ≤ 140737488355328) (hcap : xs.length ≤ c) (hlen : (Lib.join (xs.map (·.data.toList)) sep.data.toList).length ≤ 140737488355328) :
    Calls Tryd.prog 85 #[.slice (some ⟨bk, o, none⟩) xs.length c, .string sep] w fun e w' => e = .returned (.string ⟨(Lib.join (xs.map (·.data.toList)) sep.data.toList).toArray⟩) ∧ Below w.heap.size w w' := Any.strings_Join Tryd.lays156 Tryd.Builder_Extra_156 bk o c xs sep w hcells hbk hN hcap hlen
def Tryd.lays162_ren : Go.Shelf.Ren := ⟨fun | 162 => 95 | 232 => 115 | 227 => 116 | 234 => 117 | 236 => 118 | 228 => 133 | 271 => 134 | 151 => 135 | 120 => 152 | 197 => 138 | 152 => 153 | 260 => 154 | 137 => 164 | 119 => 165 | 224 => 147 | 225 => 146 | 217 => 145 | 266 => 160 | n => n, fun | 9 => 9 | 4 => 4 | 3 => 3 | 5 => 5 | 117 => 154 | 116 => 153 | 0 => 0 | 124 => 157 | 21 => 21 | 105 => 171 | 46 => 117 | 119 => 205 | 139 => 208 | 138 => 207 | n => n, fun | 3 => 4 | 4 => 5 | n => n⟩
theorem Tryd.lays162 : Go.Proofs.Lays.n162 Tryd.prog Tryd.lays162_ren := {
  mixed := by kernel_rfl
  f119 := Tryd.func165.trans (congrArg some (by kernel_rfl))
  f120 := Tryd.func152.trans (congrArg some (by kernel_rfl))
  f137 := Tryd.func164.trans (congrArg some (by kernel_rfl))
  f151 := Tryd.func135.trans (congrArg some (by kernel_rfl))
  f152 := Tryd.func153.trans (congrArg some (by kernel_rfl))
  f162 := Tryd.func95.trans (congrArg some (by kernel_rfl))
  f197 := Tryd.func138.trans (congrArg some (by kernel_rfl))
  f217 := Tryd.func145.trans (congrArg some (by kernel_rfl))
  f224 := Tryd.func147.trans (congrArg some (by kernel_rfl))
  f225 := Tryd.func146.trans (congrArg some (by kernel_rfl))
  f227 := Tryd.func116.trans (congrArg some (by kernel_rfl))
  f228 := Tryd.func133.trans (congrArg some (by kernel_rfl))
  f232 := Tryd.func115.trans (congrArg some (by kernel_rfl))
  f234 := Tryd.func117.trans (congrArg some (by kernel_rfl))
  f236 := Tryd.func118.trans (congrArg some (by kernel_rfl))
  f260 := Tryd.func154.trans (congrArg some (by kernel_rfl))
  f266 := Tryd.func160.trans (congrArg some (by kernel_rfl))
  f271 := Tryd.func134.trans (congrArg some (by kernel_rfl))
  t0 := Tryd.underlying0
  a0 := Tryd.isAgg0
  z0 := Tryd.sizeOf0
  v0 := Tryd.zeroValue0
  t3 := Tryd.underlying3
  a3 := Tryd.isAgg3
  z3 := Tryd.sizeOf3
  v3 := Tryd.zeroValue3
  t4 := Tryd.underlying4
  a4 := Tryd.isAgg4
  z4 := Tryd.sizeOf4
  v4 := Tryd.zeroValue4
  t5 := Tryd.underlying5
  a5 := Tryd.isAgg5
  z5 := Tryd.sizeOf5
  v5 := Tryd.zeroValue5
  t9 := Tryd.underlying9
  a9 := Tryd.isAgg9
  z9 := Tryd.sizeOf9
  v9 := Tryd.zeroValue9
  t21 := Tryd.underlying21
  a21 := Tryd.isAgg21
  z21 := Tryd.sizeOf21
  v21 := Tryd.zeroValue21
  t46 := Tryd.underlying117
  a46 := Tryd.isAgg117
  z46 := Tryd.sizeOf117
  v46 := Tryd.zeroValue117
  t105 := Tryd.underlying171
  a105 := Tryd.isAgg171
  z105 := Tryd.sizeOf171
  v105 := Tryd.zeroValue171
  t116 := Tryd.underlying153
  a116 := Tryd.isAgg153
  z116 := Tryd.sizeOf153
  t117 := Tryd.underlying154
  a117 := Tryd.isAgg154
  z117 := Tryd.sizeOf154
  v117 := Tryd.zeroValue154
  t119 := Tryd.underlying205
  a119 := Tryd.isAgg205
  z119 := Tryd.sizeOf205
  t124 := Tryd.underlying157
  a124 := Tryd.isAgg157
  z124 := Tryd.sizeOf157
  v124 := Tryd.zeroValue157
  t138 := Tryd.underlying207
  a138 := Tryd.isAgg207
  z138 := Tryd.sizeOf207
  v138 := Tryd.zeroValue207
  t139 := Tryd.underlying208
  a139 := Tryd.isAgg208
  z139 := Tryd.sizeOf208
  v139 := Tryd.zeroValue208
  g3 := by kernel_rfl
  g4 := by kernel_rfl }
open Go.RowKit in
/-- strings.TrimRight: "TrimRight returns a slice of the string s, with all trailing Unicode code points contained in cutset removed.": AT A cutset OF ONE ASCII BYTE. The world is as it was. (LAID: no walk: one application.) -/
theorem Tryd.strings_TrimRight_one (s : ByteArray) (c : UInt8) (hc : c.toNat < 128) (w : World) (hs : s.size ≤ 9223372036854775807) :
    Calls Tryd.prog 95 #[.string s, .string ⟨#[c]⟩] w fun e w' => e = .returned (.string ⟨(Lib.trimRightB s.data.toList c).toArray⟩) ∧ w' = w := Any.strings_TrimRight_one Tryd.lays162 s c hc w hs
def Tryd.lays135_ren : Go.Shelf.Ren := ⟨fun | 135 => 62 | n => n, fun | 5 => 5 | 3 => 3 | 9 => 9 | n => n, fun | n => n⟩
theorem Tryd.lays135 : Go.Proofs.Lays.n135 Tryd.prog Tryd.lays135_ren := {
  mixed := by kernel_rfl
  f135 := Tryd.func62.trans (congrArg some (by kernel_rfl))
  t3 := Tryd.underlying3
  a3 := Tryd.isAgg3
  z3 := Tryd.sizeOf3
  v3 := Tryd.zeroValue3
  t5 := Tryd.underlying5
  a5 := Tryd.isAgg5
  z5 := Tryd.sizeOf5
  v5 := Tryd.zeroValue5
  t9 := Tryd.underlying9
  a9 := Tryd.isAgg9
  z9 := Tryd.sizeOf9
  v9 := Tryd.zeroValue9 }
/-- bits.OnesCount8: "OnesCount8 returns the number of one bits ("population count") in x.": IT RETURNS 'Lib.onesCount x'; the world is as it was. ('h0', 'h1': x is a uint8.) (LAID: no walk: one application.) -/
theorem Tryd.bits_OnesCount8 (x : Int) (w : World) (h0 : 0 ≤ x) (h1 : x ≤ 255) :
    Calls Tryd.prog 62 #[.int .u8 x] w fun e w' => e = .returned (.int .i64 (Lib.onesCount x.toNat)) ∧ w' = w := Any.bits_OnesCount8 Tryd.lays135 x w h0 h1
def Tryd.laysM171_ren : Go.Shelf.Ren := ⟨fun | 171 => 84 | 243 => 109 | 246 => 125 | 283 => 140 | 284 => 141 | 285 => 142 | 286 => 143 | 129 => 156 | 317 => 155 | 318 => 157 | 319 => 158 | 320 => 159 | 337 => 166 | 338 => 167 | n => n, fun | 3 => 3 | 9 => 9 | 2 => 2 | 4 => 4 | 171 => 178 | 0 => 0 | 53 => 179 | 37 => 101 | 5 => 5 | 173 => 182 | 212 => 194 | 51 => 39 | 20 => 20 | 213 => 195 | 46 => 117 | 232 => 209 | 233 => 210 | n => n, fun | 17 => 3 | 18 => 6 | 19 => 7 | n => n⟩
theorem Tryd.laysM171 : Go.Proofs.LaysM.n171 Tryd.prog Tryd.laysM171_ren := {
  mixed := by kernel_rfl
  f129 := Tryd.func156.trans (congrArg some (by kernel_rfl))
  f171 := Tryd.func84.trans (congrArg some (by kernel_rfl))
  f243 := Tryd.func109.trans (congrArg some (by kernel_rfl))
  f246 := Tryd.func125.trans (congrArg some (by kernel_rfl))
  f283 := Tryd.func140.trans (congrArg some (by kernel_rfl))
  f284 := Tryd.func141.trans (congrArg some (by kernel_rfl))
  f285 := Tryd.func142.trans (congrArg some (by kernel_rfl))
  f286 := Tryd.func143.trans (congrArg some (by kernel_rfl))
  f317 := Tryd.func155.trans (congrArg some (by kernel_rfl))
  f318 := Tryd.func157.trans (congrArg some (by kernel_rfl))
  f319 := Tryd.func158.trans (congrArg some (by kernel_rfl))
  f320 := Tryd.func159.trans (congrArg some (by kernel_rfl))
  f337 := Tryd.func166.trans (congrArg some (by kernel_rfl))
  f338 := Tryd.func167.trans (congrArg some (by kernel_rfl))
  t0 := Tryd.underlying0
  a0 := Tryd.isAgg0
  z0 := Tryd.sizeOf0
  v0 := Tryd.zeroValue0
  t2 := Tryd.underlying2
  a2 := Tryd.isAgg2
  z2 := Tryd.sizeOf2
  v2 := Tryd.zeroValue2
  t3 := Tryd.underlying3
  a3 := Tryd.isAgg3
  z3 := Tryd.sizeOf3
  v3 := Tryd.zeroValue3
  t4 := Tryd.underlying4
  a4 := Tryd.isAgg4
  z4 := Tryd.sizeOf4
  v4 := Tryd.zeroValue4
  t5 := Tryd.underlying5
  a5 := Tryd.isAgg5
  z5 := Tryd.sizeOf5
  v5 := Tryd.zeroValue5
  t9 := Tryd.underlying9
  a9 := Tryd.isAgg9
  z9 := Tryd.sizeOf9
  v9 := Tryd.zeroValue9
  t20 := Tryd.underlying20
  a20 := Tryd.isAgg20
  z20 := Tryd.sizeOf20
  v20 := Tryd.zeroValue20
  t37 := Tryd.underlying101
  a37 := Tryd.isAgg101
  z37 := Tryd.sizeOf101
  v37 := Tryd.zeroValue101
  t46 := Tryd.underlying117
  a46 := Tryd.isAgg117
  z46 := Tryd.sizeOf117
  v46 := Tryd.zeroValue117
  t51 := Tryd.underlying39
  a51 := Tryd.isAgg39
  z51 := Tryd.sizeOf39
  v51 := Tryd.zeroValue39
  t53 := Tryd.underlying179
  a53 := Tryd.isAgg179
  z53 := Tryd.sizeOf179
  v53 := Tryd.zeroValue179
  t171 := Tryd.underlying178
  a171 := Tryd.isAgg178
  z171 := Tryd.sizeOf178
  v171 := Tryd.zeroValue178
  t173 := Tryd.underlying182
  a173 := Tryd.isAgg182
  z173 := Tryd.sizeOf182
  v173 := Tryd.zeroValue182
  t212 := Tryd.underlying194
  a212 := Tryd.isAgg194
  z212 := Tryd.sizeOf194
  v212 := Tryd.zeroValue194
  t213 := Tryd.underlying195
  a213 := Tryd.isAgg195
  z213 := Tryd.sizeOf195
  t232 := Tryd.underlying209
  a232 := Tryd.isAgg209
  z232 := Tryd.sizeOf209
  v232 := Tryd.zeroValue209
  t233 := Tryd.underlying210
  a233 := Tryd.isAgg210
  z233 := Tryd.sizeOf210
  v233 := Tryd.zeroValue210
  g17 := by kernel_rfl
  g18 := by kernel_rfl
  g19 := by kernel_rfl
  i0 := by kernel_rfl
  i2 := by kernel_rfl
  i3 := by kernel_rfl
  i4 := by kernel_rfl
  i5 := by kernel_rfl
  i9 := by kernel_rfl
  i20 := by kernel_rfl
  i37 := by kernel_rfl
  i46 := by kernel_rfl
  i51 := by kernel_rfl
  i53 := by kernel_rfl
  i171 := by kernel_rfl
  i173 := by kernel_rfl
  i212 := by kernel_rfl
  i232 := by kernel_rfl
  i233 := by kernel_rfl
  m17 := by kernel_rfl
  m18 := by kernel_rfl
  m19 := by kernel_rfl }
open Go.RowKit Go.Sort Go.Lib in
/-- strconv.Itoa: "Itoa is equivalent to FormatInt(int64(i), 10).": i's DECIMAL NUMERAL ('Lib.itoa': a '-' where i is negative, then the digits), FOR EVERY int. The world behind the call: the world before it, new blocks behind the heap (the library's 'var a [24]byte'), draws. (LAID: no walk: one application.) -/
theorem Tryd.strconv_Itoa (n : Int) (h0 : -9223372036854775808 ≤ n) (h1 : n ≤ 9223372036854775807) (w : World) (htab : Lib.TabIs Tryd.prog w "internal/strconv.uint64pow10" .u64 Lib.pow10Tab) :
    Calls Tryd.prog 84 #[.int .i64 n] w fun e w' => e = .returned (.string ⟨(Lib.itoa n).toArray⟩) ∧ ∃ k os, w' = grow (w.drewN k) os := Any.strconv_Itoa Tryd.laysM171 n h0 h1 w htab
def Tryd.laysC172_ren : Go.Shelf.Ren := ⟨fun | 172 => 93 | 244 => 113 | 245 => 114 | 247 => 128 | 279 => 129 | 280 => 130 | 281 => 131 | 282 => 132 | 287 => 149 | 316 => 150 | 171 => 84 | 205 => 151 | 321 => 162 | 322 => 163 | 243 => 109 | 246 => 125 | 283 => 140 | 284 => 141 | 285 => 142 | 286 => 143 | 129 => 156 | 317 => 155 | 318 => 157 | 319 => 158 | 320 => 159 | 337 => 166 | 338 => 167 | n => n, fun | 9 => 9 | 3 => 3 | 75 => 134 | 76 => 135 | 4 => 4 | 5 => 5 | 167 => 164 | 37 => 101 | 0 => 0 | 85 => 165 | 2 => 2 | 168 => 167 | 53 => 179 | 175 => 186 | 46 => 117 | 210 => 190 | 127 => 160 | 145 => 203 | 143 => 201 | 21 => 21 | 171 => 178 | 173 => 182 | 212 => 194 | 51 => 39 | 20 => 20 | 213 => 195 | 232 => 209 | 233 => 210 | 80 => 116 | n => n, fun | 15 => 1 | 16 => 2 | 17 => 3 | 18 => 6 | 19 => 7 | n => n⟩
theorem Tryd.laysC172 : Go.Proofs.LaysC.n172 Tryd.prog Tryd.laysC172_ren := {
  mixed := by kernel_rfl
  f129 := Tryd.func156.trans (congrArg some (by kernel_rfl))
  f171 := Tryd.func84.trans (congrArg some (by kernel_rfl))
  f172 := Tryd.func93.trans (congrArg some (by kernel_rfl))
  f205 := Tryd.func151.trans (congrArg some (by kernel_rfl))
  f243 := Tryd.func109.trans (congrArg some (by kernel_rfl))
  f244 := Tryd.func113.trans (congrArg some (by kernel_rfl))
  f245 := Tryd.func114.trans (congrArg some (by kernel_rfl))
  f246 := Tryd.func125.trans (congrArg some (by kernel_rfl))
  f247 := Tryd.func128.trans (congrArg some (by kernel_rfl))
  f279 := Tryd.func129.trans (congrArg some (by kernel_rfl))
  f280 := Tryd.func130.trans (congrArg some (by kernel_rfl))
  f281 := Tryd.func131.trans (congrArg some (by kernel_rfl))
  f282 := Tryd.func132.trans (congrArg some (by kernel_rfl))
  f283 := Tryd.func140.trans (congrArg some (by kernel_rfl))
  f284 := Tryd.func141.trans (congrArg some (by kernel_rfl))
  f285 := Tryd.func142.trans (congrArg some (by kernel_rfl))
  f286 := Tryd.func143.trans (congrArg some (by kernel_rfl))
  f287 := Tryd.func149.trans (congrArg some (by kernel_rfl))
  f316 := Tryd.func150.trans (congrArg some (by kernel_rfl))
  f317 := Tryd.func155.trans (congrArg some (by kernel_rfl))
  f318 := Tryd.func157.trans (congrArg some (by kernel_rfl))
  f319 := Tryd.func158.trans (congrArg some (by kernel_rfl))
  f320 := Tryd.func159.trans (congrArg some (by kernel_rfl))
  f321 := Tryd.func162.trans (congrArg some (by kernel_rfl))
  f322 := Tryd.func163.trans (congrArg some (by kernel_rfl))
  f337 := Tryd.func166.trans (congrArg some (by kernel_rfl))
  f338 := Tryd.func167.trans (congrArg some (by kernel_rfl))
  t0 := Tryd.underlying0
  a0 := Tryd.isAgg0
  z0 := Tryd.sizeOf0
  v0 := Tryd.zeroValue0
  t2 := Tryd.underlying2
  a2 := Tryd.isAgg2
  z2 := Tryd.sizeOf2
  v2 := Tryd.zeroValue2
  t3 := Tryd.underlying3
  a3 := Tryd.isAgg3
  z3 := Tryd.sizeOf3
  v3 := Tryd.zeroValue3
  t4 := Tryd.underlying4
  a4 := Tryd.isAgg4
  z4 := Tryd.sizeOf4
  v4 := Tryd.zeroValue4
  t5 := Tryd.underlying5
  a5 := Tryd.isAgg5
  z5 := Tryd.sizeOf5
  v5 := Tryd.zeroValue5
  t9 := Tryd.underlying9
  a9 := Tryd.isAgg9
  z9 := Tryd.sizeOf9
  v9 := Tryd.zeroValue9
  t20 := Tryd.underlying20
  a20 := Tryd.isAgg20
  z20 := Tryd.sizeOf20
  v20 := Tryd.zeroValue20
  t21 := Tryd.underlying21
  a21 := Tryd.isAgg21
  z21 := Tryd.sizeOf21
  v21 := Tryd.zeroValue21
  t37 := Tryd.underlying101
  a37 := Tryd.isAgg101
  z37 := Tryd.sizeOf101
  v37 := Tryd.zeroValue101
  t46 := Tryd.underlying117
  a46 := Tryd.isAgg117
  z46 := Tryd.sizeOf117
  v46 := Tryd.zeroValue117
  t51 := Tryd.underlying39
  a51 := Tryd.isAgg39
  z51 := Tryd.sizeOf39
  v51 := Tryd.zeroValue39
  t53 := Tryd.underlying179
  a53 := Tryd.isAgg179
  z53 := Tryd.sizeOf179
  v53 := Tryd.zeroValue179
  t75 := Tryd.underlying134
  a75 := Tryd.isAgg134
  z75 := Tryd.sizeOf134
  v75 := Tryd.zeroValue134
  t76 := Tryd.underlying135
  a76 := Tryd.isAgg135
  z76 := Tryd.sizeOf135
  v76 := Tryd.zeroValue135
  t85 := Tryd.underlying165
  a85 := Tryd.isAgg165
  z85 := Tryd.sizeOf165
  v85 := Tryd.zeroValue165
  t127 := Tryd.underlying160
  a127 := Tryd.isAgg160
  z127 := Tryd.sizeOf160
  v127 := Tryd.zeroValue160
  t143 := Tryd.underlying201
  a143 := Tryd.isAgg201
  z143 := Tryd.sizeOf201
  v143 := Tryd.zeroValue201
  t145 := Tryd.underlying203
  a145 := Tryd.isAgg203
  z145 := Tryd.sizeOf203
  v145 := Tryd.zeroValue203
  t167 := Tryd.underlying164
  a167 := Tryd.isAgg164
  z167 := Tryd.sizeOf164
  v167 := Tryd.zeroValue164
  t168 := Tryd.underlying167
  a168 := Tryd.isAgg167
  z168 := Tryd.sizeOf167
  v168 := Tryd.zeroValue167
  t171 := Tryd.underlying178
  a171 := Tryd.isAgg178
  z171 := Tryd.sizeOf178
  v171 := Tryd.zeroValue178
  t173 := Tryd.underlying182
  a173 := Tryd.isAgg182
  z173 := Tryd.sizeOf182
  v173 := Tryd.zeroValue182
  t175 := Tryd.underlying186
  a175 := Tryd.isAgg186
  z175 := Tryd.sizeOf186
  v175 := Tryd.zeroValue186
  t210 := Tryd.underlying190
  a210 := Tryd.isAgg190
  z210 := Tryd.sizeOf190
  v210 := Tryd.zeroValue190
  t212 := Tryd.underlying194
  a212 := Tryd.isAgg194
  z212 := Tryd.sizeOf194
  v212 := Tryd.zeroValue194
  t213 := Tryd.underlying195
  a213 := Tryd.isAgg195
  z213 := Tryd.sizeOf195
  t232 := Tryd.underlying209
  a232 := Tryd.isAgg209
  z232 := Tryd.sizeOf209
  v232 := Tryd.zeroValue209
  t233 := Tryd.underlying210
  a233 := Tryd.isAgg210
  z233 := Tryd.sizeOf210
  v233 := Tryd.zeroValue210
  g15 := by kernel_rfl
  g16 := by kernel_rfl
  g17 := by kernel_rfl
  g18 := by kernel_rfl
  g19 := by kernel_rfl
  t80 := Tryd.underlying116
  a80 := Tryd.isAgg116
  z80 := Tryd.sizeOf116
  v80 := Tryd.zeroValue116
  i0 := by kernel_rfl
  i2 := by kernel_rfl
  i3 := by kernel_rfl
  i4 := by kernel_rfl
  i5 := by kernel_rfl
  i9 := by kernel_rfl
  i20 := by kernel_rfl
  i21 := by kernel_rfl
  i37 := by kernel_rfl
  i46 := by kernel_rfl
  i51 := by kernel_rfl
  i53 := by kernel_rfl
  i75 := by kernel_rfl
  i76 := by kernel_rfl
  i80 := by kernel_rfl
  i85 := by kernel_rfl
  i127 := by kernel_rfl
  i143 := by kernel_rfl
  i145 := by kernel_rfl
  i167 := by kernel_rfl
  i168 := by kernel_rfl
  i171 := by kernel_rfl
  i173 := by kernel_rfl
  i175 := by kernel_rfl
  i210 := by kernel_rfl
  i212 := by kernel_rfl
  i232 := by kernel_rfl
  i233 := by kernel_rfl
  m15 := by kernel_rfl
  m16 := by kernel_rfl
  m17 := by kernel_rfl
  m18 := by kernel_rfl
  m19 := by kernel_rfl
  c0 := by kernel_rfl
  c2 := by kernel_rfl
  c3 := by kernel_rfl
  c4 := by kernel_rfl
  c5 := by kernel_rfl
  c9 := by kernel_rfl
  c20 := by kernel_rfl
  c21 := by kernel_rfl
  c37 := by kernel_rfl
  c46 := by kernel_rfl
  c51 := by kernel_rfl
  c53 := by kernel_rfl
  c75 := by kernel_rfl
  c76 := by kernel_rfl
  c80 := by kernel_rfl
  c85 := by kernel_rfl
  c127 := by kernel_rfl
  c143 := by kernel_rfl
  c145 := by kernel_rfl
  c167 := by kernel_rfl
  c168 := by kernel_rfl
  c171 := by kernel_rfl
  c173 := by kernel_rfl
  c175 := by kernel_rfl
  c210 := by kernel_rfl
  c212 := by kernel_rfl
  c213 := by kernel_rfl
  c232 := by kernel_rfl
  c233 := by kernel_rfl }
open Go.RowKit in
/-- strconv.Atoi, AT EVERY STRING THAT SPELLS AN int ('Lib.atoiAll .. = .ok v'; of whatever length: leading zeros count): v, AND NO ERROR. The world: as it was, or with the one new row that '[]byte(..)' lays. (LAID: no walk: one application.) -/
theorem Tryd.strconv_Atoi_ok (s : ByteArray) (hmax : s.size ≤ 9223372036854775806) (v : Int) (h : Lib.atoiAll s.data.toList = .ok v) (w : World) :
    Calls Tryd.prog 93 #[.string s] w fun e w' => e = .returned (.tuple #[.int .i64 v, .nilIface]) ∧ (w' = w ∨ ∃ t, w' = Lib.bytesWorld w 5 t) := Any.strconv_Atoi_ok Tryd.laysC172 s hmax v h w
open Go.RowKit in
/-- strconv.Atoi, AT EVERY STRING THAT IS NO DECIMAL NUMERAL ('.syntax'): 0, AND AN ERROR THAT IS NOT nil: a *NumError in a new block N: {Func: "Atoi", Num: s's bytes, Err: what the variable ErrSyntax holds}. Of what was there nothing has turned. (LAID: no walk: one application.) -/
theorem Tryd.strconv_Atoi_syntax (s : ByteArray) (hlim : s.size ≤ 281474976710656) (h : Lib.atoiAll s.data.toList = Lib.atoiAll []) (ev : Value) (w : World) (hv : w.cell? ⟨1, 0, none⟩ = some ev) (hev : ev = .nilIface ∨ ∃ te pe, ev = .iface te pe) :
    Calls Tryd.prog 93 #[.string s] w fun e w' => ∃ N, e = .returned (.tuple #[.int .i64 (0), .iface 167 (.pointer (some ⟨N, 0, none⟩))]) ∧ w.heap.size ≤ N ∧ w'.heap[N]? = some (.cells #[.string ⟨#[65, 116, 111, 105]⟩, .string s, ev] 190 (0, 0)) ∧ Below w.heap.size w w' := Any.strconv_Atoi_syntax Tryd.laysC172 s hlim h ev w hv hev
open Go.RowKit in
/-- strconv.Atoi, AT EVERY NUMERAL THAT NO int HOLDS ('.range'): THE GREATEST OR THE LEAST int, BY THE SIGN ('Lib.atoiSat'), AND AN ERROR THAT IS NOT nil: a *NumError in a new block N: {Func: "Atoi", Num: s's bytes, Err: what the variable ErrRange holds}. Of what was there nothing has turned. (LAID: no walk: one application.) -/
theorem Tryd.strconv_Atoi_range (s : ByteArray) (hlim : s.size ≤ 281474976710656) (h : Lib.atoiAll s.data.toList = .range) (ev : Value) (w : World) (hv : w.cell? ⟨2, 0, none⟩ = some ev) (hev : ev = .nilIface ∨ ∃ te pe, ev = .iface te pe) :
    Calls Tryd.prog 93 #[.string s] w fun e w' => ∃ N, e = .returned (.tuple #[.int .i64 (Lib.atoiSat s.data.toList), .iface 167 (.pointer (some ⟨N, 0, none⟩))]) ∧ w.heap.size ≤ N ∧ w'.heap[N]? = some (.cells #[.string ⟨#[65, 116, 111, 105]⟩, .string s, ev] 190 (0, 0)) ∧ Below w.heap.size w w' := Any.strconv_Atoi_range Tryd.laysC172 s hlim h ev w hv hev
def Tryd.lays145_ren : Go.Shelf.Ren := ⟨fun | 145 => 87 | 220 => 112 | 219 => 127 | 217 => 145 | 225 => 146 | 224 => 147 | 267 => 148 | 266 => 160 | 314 => 161 | n => n, fun | 9 => 9 | 4 => 4 | 59 => 126 | 3 => 3 | 5 => 5 | 46 => 117 | 146 => 197 | 51 => 39 | n => n, fun | 1 => 0 | n => n⟩
theorem Tryd.lays145 : Go.Proofs.Lays.n145 Tryd.prog Tryd.lays145_ren := {
  mixed := by kernel_rfl
  f145 := Tryd.func87.trans (congrArg some (by kernel_rfl))
  f217 := Tryd.func145.trans (congrArg some (by kernel_rfl))
  f219 := Tryd.func127.trans (congrArg some (by kernel_rfl))
  f220 := Tryd.func112.trans (congrArg some (by kernel_rfl))
  f224 := Tryd.func147.trans (congrArg some (by kernel_rfl))
  f225 := Tryd.func146.trans (congrArg some (by kernel_rfl))
  f266 := Tryd.func160.trans (congrArg some (by kernel_rfl))
  f267 := Tryd.func148.trans (congrArg some (by kernel_rfl))
  f314 := Tryd.func161.trans (congrArg some (by kernel_rfl))
  t3 := Tryd.underlying3
  a3 := Tryd.isAgg3
  z3 := Tryd.sizeOf3
  v3 := Tryd.zeroValue3
  t4 := Tryd.underlying4
  a4 := Tryd.isAgg4
  z4 := Tryd.sizeOf4
  v4 := Tryd.zeroValue4
  t5 := Tryd.underlying5
  a5 := Tryd.isAgg5
  z5 := Tryd.sizeOf5
  v5 := Tryd.zeroValue5
  t9 := Tryd.underlying9
  a9 := Tryd.isAgg9
  z9 := Tryd.sizeOf9
  v9 := Tryd.zeroValue9
  t46 := Tryd.underlying117
  a46 := Tryd.isAgg117
  z46 := Tryd.sizeOf117
  v46 := Tryd.zeroValue117
  t51 := Tryd.underlying39
  a51 := Tryd.isAgg39
  z51 := Tryd.sizeOf39
  v51 := Tryd.zeroValue39
  t59 := Tryd.underlying126
  a59 := Tryd.isAgg126
  z59 := Tryd.sizeOf126
  v59 := Tryd.zeroValue126
  t146 := Tryd.underlying197
  a146 := Tryd.isAgg197
  z146 := Tryd.sizeOf197
  v146 := Tryd.zeroValue197
  g1 := by kernel_rfl }
open Go.RowKit Go.Lib in
/-- strings.Cut: "Cut slices s around the first instance of sep, returning the text before and after sep. The found result reports whether sep appears in s. If sep does not appear in s, cut returns s, "", false.": IT RETURNS 'Lib.cut s sep'; the world is as it was but for the count of draws. (LAID: no walk: one application.) -/
theorem Tryd.strings_Cut (s sep : ByteArray) (m : Int) (w : World) (hs : s.size < 4294967281) (hm : w.cell? ⟨0, 0, none⟩ = some (.int .i64 m)) :
    Calls Tryd.prog 87 #[.string s, .string sep] w fun e w' => e = .returned (.tuple #[.string ⟨(Lib.cut s.data.toList sep.data.toList).1.toArray⟩, .string ⟨(Lib.cut s.data.toList sep.data.toList).2.1.toArray⟩, .bool (Lib.cut s.data.toList sep.data.toList).2.2]) ∧ ∃ n, w' = w.drewN n := Any.strings_Cut Tryd.lays145 s sep m w hs hm
def Tryd.lays146_ren : Go.Shelf.Ren := ⟨fun | 146 => 81 | 221 => 108 | 268 => 122 | 138 => 123 | 143 => 124 | 195 => 137 | 197 => 138 | 218 => 139 | 219 => 127 | 260 => 154 | 217 => 145 | 225 => 146 | 224 => 147 | 267 => 148 | 266 => 160 | 314 => 161 | n => n, fun | 9 => 9 | 31 => 119 | 3 => 3 | 4 => 4 | 0 => 0 | 105 => 171 | 21 => 21 | 5 => 5 | 46 => 117 | 119 => 205 | 139 => 208 | 138 => 207 | 146 => 197 | 51 => 39 | n => n, fun | 1 => 0 | 3 => 4 | 4 => 5 | n => n⟩
theorem Tryd.lays146 : Go.Proofs.Lays.n146 Tryd.prog Tryd.lays146_ren := {
  mixed := by kernel_rfl
  f138 := Tryd.func123.trans (congrArg some (by kernel_rfl))
  f143 := Tryd.func124.trans (congrArg some (by kernel_rfl))
  f146 := Tryd.func81.trans (congrArg some (by kernel_rfl))
  f195 := Tryd.func137.trans (congrArg some (by kernel_rfl))
  f197 := Tryd.func138.trans (congrArg some (by kernel_rfl))
  f217 := Tryd.func145.trans (congrArg some (by kernel_rfl))
  f218 := Tryd.func139.trans (congrArg some (by kernel_rfl))
  f219 := Tryd.func127.trans (congrArg some (by kernel_rfl))
  f221 := Tryd.func108.trans (congrArg some (by kernel_rfl))
  f224 := Tryd.func147.trans (congrArg some (by kernel_rfl))
  f225 := Tryd.func146.trans (congrArg some (by kernel_rfl))
  f260 := Tryd.func154.trans (congrArg some (by kernel_rfl))
  f266 := Tryd.func160.trans (congrArg some (by kernel_rfl))
  f267 := Tryd.func148.trans (congrArg some (by kernel_rfl))
  f268 := Tryd.func122.trans (congrArg some (by kernel_rfl))
  f314 := Tryd.func161.trans (congrArg some (by kernel_rfl))
  t0 := Tryd.underlying0
  a0 := Tryd.isAgg0
  z0 := Tryd.sizeOf0
  v0 := Tryd.zeroValue0
  t3 := Tryd.underlying3
  a3 := Tryd.isAgg3
  z3 := Tryd.sizeOf3
  v3 := Tryd.zeroValue3
  t4 := Tryd.underlying4
  a4 := Tryd.isAgg4
  z4 := Tryd.sizeOf4
  v4 := Tryd.zeroValue4
  t5 := Tryd.underlying5
  a5 := Tryd.isAgg5
  z5 := Tryd.sizeOf5
  v5 := Tryd.zeroValue5
  t9 := Tryd.underlying9
  a9 := Tryd.isAgg9
  z9 := Tryd.sizeOf9
  v9 := Tryd.zeroValue9
  t21 := Tryd.underlying21
  a21 := Tryd.isAgg21
  z21 := Tryd.sizeOf21
  v21 := Tryd.zeroValue21
  t31 := Tryd.underlying119
  a31 := Tryd.isAgg119
  z31 := Tryd.sizeOf119
  v31 := Tryd.zeroValue119
  t46 := Tryd.underlying117
  a46 := Tryd.isAgg117
  z46 := Tryd.sizeOf117
  v46 := Tryd.zeroValue117
  t51 := Tryd.underlying39
  a51 := Tryd.isAgg39
  z51 := Tryd.sizeOf39
  v51 := Tryd.zeroValue39
  t105 := Tryd.underlying171
  a105 := Tryd.isAgg171
  z105 := Tryd.sizeOf171
  v105 := Tryd.zeroValue171
  t119 := Tryd.underlying205
  a119 := Tryd.isAgg205
  z119 := Tryd.sizeOf205
  t138 := Tryd.underlying207
  a138 := Tryd.isAgg207
  z138 := Tryd.sizeOf207
  v138 := Tryd.zeroValue207
  t139 := Tryd.underlying208
  a139 := Tryd.isAgg208
  z139 := Tryd.sizeOf208
  v139 := Tryd.zeroValue208
  t146 := Tryd.underlying197
  a146 := Tryd.isAgg197
  z146 := Tryd.sizeOf197
  v146 := Tryd.zeroValue197
  g1 := by kernel_rfl
  g3 := by kernel_rfl
  g4 := by kernel_rfl }
open Go.RowKit Go.Lib in
/-- strings.Split. (LAID: no walk: one application.) -/
theorem Tryd.strings_Split (s sep : ByteArray) (m : Int) (w : World) (hs : s.size < 4294967281) (hm : w.cell? ⟨0, 0, none⟩ = some (.int .i64 m)) (h1 : 1 ≤ sep.size) :
    Calls Tryd.prog 81 #[.string s, .string sep] w fun e w' =>
      e = .returned (.slice (some ⟨w.heap.size, 0, none⟩) (Lib.countB s sep + 1) (Lib.countB s sep + 1)) ∧ w' = w.alloc (.cells ((Lib.splitB sep 0 (Lib.countB s sep) s).map Value.string).toArray 9) := Any.strings_Split Tryd.lays146 (by kernel_rfl) s sep m w hs hm h1
end Go.Proofs
