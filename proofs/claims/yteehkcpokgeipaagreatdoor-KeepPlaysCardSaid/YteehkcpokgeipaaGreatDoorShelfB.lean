/- The library contracts that this claim uses, laid at this translation by the kit (its plain mode), cut to what is used. -/
import Derived.Shelf.Strconv.Itoa0
import Derived.Shelf.Strconv.Itoa1
import Derived.Shelf.LaysM
import Derived.Shelf.Strconv.Itoa2
import Derived.Shelf.Strconv.Itoa3
import Derived.Shelf.Strconv.ParseIntEmpty
import Derived.Shelf.Strconv.Clone
import Derived.Shelf.Strconv.SyntaxError
import Derived.Shelf.LaysC
import Derived.Shelf.Strconv.ToError
import Derived.Shelf.Strconv.Lower
import Derived.Shelf.Strconv.ParseUint10
import Derived.Shelf.Strconv.ParseUint10Empty
import Derived.Shelf.Strconv.ParseUint10Any
import Derived.Shelf.Strconv.ParseInt10
import Derived.Shelf.Strconv.RangeError
import Derived.Shelf.Strconv.ToErrorRange
import Derived.Shelf.Strconv.ParseUintEmpty
import Derived.Shelf.Strconv.ParseUint10b64
import Derived.Shelf.Strconv.ParseUint10b32
import Derived.Shelf.Strconv.ParseUint10b16
import Derived.Shelf.Strconv.ParseUint10b8
import Derived.Shelf.Strconv.ParseUint10At
import Derived.Shelf.Strconv.ParseInt10At64
import Derived.Shelf.Strconv.ParseInt10At32
import Derived.Shelf.Strconv.ParseInt10At16
import Derived.Shelf.Strconv.ParseInt10At8
import Derived.Shelf.Strconv.ParseInt10All
import Derived.Shelf.Strconv.ParseIntPublic10
import Derived.Shelf.Strconv.ErrVarParseInt
import Derived.Ground.SlgmProg
import Derived.Shelf.SortM.Plain
import Derived.Shelf.SortM.SortNone
import Derived.Test.YteehkcpokgeipaaGreatDoorProg
import Derived.Test.YteehkcpokgeipaaGreatDoorShelf
namespace Go.Proofs
open Go.Shelf
def Tryz.laysC174_ren : Go.Shelf.Ren := ⟨fun | 174 => 105 | 247 => 131 | 245 => 132 | 287 => 164 | 279 => 165 | 280 => 166 | 281 => 167 | 282 => 168 | 321 => 187 | 322 => 188 | 316 => 189 | 171 => 103 | 205 => 190 | 243 => 130 | 246 => 163 | 283 => 183 | 284 => 184 | 285 => 185 | 286 => 186 | 129 => 144 | 317 => 193 | 318 => 194 | 319 => 195 | 320 => 196 | 337 => 197 | 338 => 198 | n => n, fun | 9 => 9 | 3 => 3 | 2 => 2 | 75 => 148 | 85 => 149 | 4 => 4 | 167 => 192 | 5 => 5 | 53 => 134 | 175 => 193 | 46 => 155 | 168 => 195 | 37 => 27 | 0 => 0 | 210 => 214 | 21 => 21 | 127 => 223 | 145 => 226 | 143 => 224 | 171 => 207 | 173 => 209 | 212 => 221 | 51 => 165 | 20 => 20 | 213 => 222 | 232 => 227 | 233 => 228 | 80 => 229 | n => n, fun | 15 => 1 | 16 => 2 | 17 => 3 | 18 => 4 | 19 => 5 | n => n⟩
theorem Tryz.laysC174 : Go.Proofs.LaysC.n174 Tryz.prog Tryz.laysC174_ren := {
  mixed := by kernel_rfl
  f129 := Tryz.func144.trans (congrArg some (by kernel_rfl))
  f171 := Tryz.func103.trans (congrArg some (by kernel_rfl))
  f174 := Tryz.func105.trans (congrArg some (by kernel_rfl))
  f205 := Tryz.func190.trans (congrArg some (by kernel_rfl))
  f243 := Tryz.func130.trans (congrArg some (by kernel_rfl))
  f245 := Tryz.func132.trans (congrArg some (by kernel_rfl))
  f246 := Tryz.func163.trans (congrArg some (by kernel_rfl))
  f247 := Tryz.func131.trans (congrArg some (by kernel_rfl))
  f279 := Tryz.func165.trans (congrArg some (by kernel_rfl))
  f280 := Tryz.func166.trans (congrArg some (by kernel_rfl))
  f281 := Tryz.func167.trans (congrArg some (by kernel_rfl))
  f282 := Tryz.func168.trans (congrArg some (by kernel_rfl))
  f283 := Tryz.func183.trans (congrArg some (by kernel_rfl))
  f284 := Tryz.func184.trans (congrArg some (by kernel_rfl))
  f285 := Tryz.func185.trans (congrArg some (by kernel_rfl))
  f286 := Tryz.func186.trans (congrArg some (by kernel_rfl))
  f287 := Tryz.func164.trans (congrArg some (by kernel_rfl))
  f316 := Tryz.func189.trans (congrArg some (by kernel_rfl))
  f317 := Tryz.func193.trans (congrArg some (by kernel_rfl))
  f318 := Tryz.func194.trans (congrArg some (by kernel_rfl))
  f319 := Tryz.func195.trans (congrArg some (by kernel_rfl))
  f320 := Tryz.func196.trans (congrArg some (by kernel_rfl))
  f321 := Tryz.func187.trans (congrArg some (by kernel_rfl))
  f322 := Tryz.func188.trans (congrArg some (by kernel_rfl))
  f337 := Tryz.func197.trans (congrArg some (by kernel_rfl))
  f338 := Tryz.func198.trans (congrArg some (by kernel_rfl))
  t0 := Tryz.underlying0
  a0 := Tryz.isAgg0
  z0 := Tryz.sizeOf0
  v0 := Tryz.zeroValue0
  t2 := Tryz.underlying2
  a2 := Tryz.isAgg2
  z2 := Tryz.sizeOf2
  v2 := Tryz.zeroValue2
  t3 := Tryz.underlying3
  a3 := Tryz.isAgg3
  z3 := Tryz.sizeOf3
  v3 := Tryz.zeroValue3
  t4 := Tryz.underlying4
  a4 := Tryz.isAgg4
  z4 := Tryz.sizeOf4
  v4 := Tryz.zeroValue4
  t5 := Tryz.underlying5
  a5 := Tryz.isAgg5
  z5 := Tryz.sizeOf5
  v5 := Tryz.zeroValue5
  t9 := Tryz.underlying9
  a9 := Tryz.isAgg9
  z9 := Tryz.sizeOf9
  v9 := Tryz.zeroValue9
  t20 := Tryz.underlying20
  a20 := Tryz.isAgg20
  z20 := Tryz.sizeOf20
  v20 := Tryz.zeroValue20
  t21 := Tryz.underlying21
  a21 := Tryz.isAgg21
  z21 := Tryz.sizeOf21
  v21 := Tryz.zeroValue21
  t37 := Tryz.underlying27
  a37 := Tryz.isAgg27
  z37 := Tryz.sizeOf27
  v37 := Tryz.zeroValue27
  t46 := Tryz.underlying155
  a46 := Tryz.isAgg155
  z46 := Tryz.sizeOf155
  v46 := Tryz.zeroValue155
  t51 := Tryz.underlying165
  a51 := Tryz.isAgg165
  z51 := Tryz.sizeOf165
  v51 := Tryz.zeroValue165
  t53 := Tryz.underlying134
  a53 := Tryz.isAgg134
  z53 := Tryz.sizeOf134
  v53 := Tryz.zeroValue134
  t75 := Tryz.underlying148
  a75 := Tryz.isAgg148
  z75 := Tryz.sizeOf148
  v75 := Tryz.zeroValue148
  t85 := Tryz.underlying149
  a85 := Tryz.isAgg149
  z85 := Tryz.sizeOf149
  v85 := Tryz.zeroValue149
  t127 := Tryz.underlying223
  a127 := Tryz.isAgg223
  z127 := Tryz.sizeOf223
  v127 := Tryz.zeroValue223
  t143 := Tryz.underlying224
  a143 := Tryz.isAgg224
  z143 := Tryz.sizeOf224
  v143 := Tryz.zeroValue224
  t145 := Tryz.underlying226
  a145 := Tryz.isAgg226
  z145 := Tryz.sizeOf226
  v145 := Tryz.zeroValue226
  t167 := Tryz.underlying192
  a167 := Tryz.isAgg192
  z167 := Tryz.sizeOf192
  v167 := Tryz.zeroValue192
  t168 := Tryz.underlying195
  a168 := Tryz.isAgg195
  z168 := Tryz.sizeOf195
  v168 := Tryz.zeroValue195
  t171 := Tryz.underlying207
  a171 := Tryz.isAgg207
  z171 := Tryz.sizeOf207
  v171 := Tryz.zeroValue207
  t173 := Tryz.underlying209
  a173 := Tryz.isAgg209
  z173 := Tryz.sizeOf209
  v173 := Tryz.zeroValue209
  t175 := Tryz.underlying193
  a175 := Tryz.isAgg193
  z175 := Tryz.sizeOf193
  v175 := Tryz.zeroValue193
  t210 := Tryz.underlying214
  a210 := Tryz.isAgg214
  z210 := Tryz.sizeOf214
  v210 := Tryz.zeroValue214
  t212 := Tryz.underlying221
  a212 := Tryz.isAgg221
  z212 := Tryz.sizeOf221
  v212 := Tryz.zeroValue221
  t213 := Tryz.underlying222
  a213 := Tryz.isAgg222
  z213 := Tryz.sizeOf222
  t232 := Tryz.underlying227
  a232 := Tryz.isAgg227
  z232 := Tryz.sizeOf227
  v232 := Tryz.zeroValue227
  t233 := Tryz.underlying228
  a233 := Tryz.isAgg228
  z233 := Tryz.sizeOf228
  v233 := Tryz.zeroValue228
  g15 := by kernel_rfl
  g16 := by kernel_rfl
  g17 := by kernel_rfl
  g18 := by kernel_rfl
  g19 := by kernel_rfl
  t80 := Tryz.underlying229
  a80 := Tryz.isAgg229
  z80 := Tryz.sizeOf229
  v80 := Tryz.zeroValue229
  i0 := by kernel_rfl
  i2 := by kernel_rfl
  i3 := by kernel_rfl
  i4 := by kernel_rfl
  i5 := by kernel_rfl
  i9 := by kernel_rfl
  i20 := by kernel_rfl
  i21 := by kernel_rfl
  i37 := by kernel_rfl
  i46 := by kernel_rfl
  i51 := by kernel_rfl
  i53 := by kernel_rfl
  i75 := by kernel_rfl
  i80 := by kernel_rfl
  i85 := by kernel_rfl
  i127 := by kernel_rfl
  i143 := by kernel_rfl
  i145 := by kernel_rfl
  i167 := by kernel_rfl
  i168 := by kernel_rfl
  i171 := by kernel_rfl
  i173 := by kernel_rfl
  i175 := by kernel_rfl
  i210 := by kernel_rfl
  i212 := by kernel_rfl
  i232 := by kernel_rfl
  i233 := by kernel_rfl
  m15 := by kernel_rfl
  m16 := by kernel_rfl
  m17 := by kernel_rfl
  m18 := by kernel_rfl
  m19 := by kernel_rfl
  c0 := by kernel_rfl
  c2 := by kernel_rfl
  c3 := by kernel_rfl
  c4 := by kernel_rfl
  c5 := by kernel_rfl
  c9 := by kernel_rfl
  c20 := by kernel_rfl
  c21 := by kernel_rfl
  c37 := by kernel_rfl
  c46 := by kernel_rfl
  c51 := by kernel_rfl
  c53 := by kernel_rfl
  c75 := by kernel_rfl
  c80 := by kernel_rfl
  c85 := by kernel_rfl
  c127 := by kernel_rfl
  c143 := by kernel_rfl
  c145 := by kernel_rfl
  c167 := by kernel_rfl
  c168 := by kernel_rfl
  c171 := by kernel_rfl
  c173 := by kernel_rfl
  c175 := by kernel_rfl
  c210 := by kernel_rfl
  c212 := by kernel_rfl
  c213 := by kernel_rfl
  c232 := by kernel_rfl
  c233 := by kernel_rfl }
open Go.RowKit in
theorem Tryz.strconv_ParseInt_10_at64_ok (s : ByteArray) (hmax : s.size ≤ 9223372036854775806) (v : Int) (h : Lib.parseIntB 64 s.data.toList = .ok v) (w : World) :
    Calls Tryz.prog 105 #[.string s, .int .i64 10, .int .i64 64] w fun e w' => e = .returned (.tuple #[.int .i64 v, .nilIface]) ∧ (w' = w ∨ ∃ t, w' = Lib.bytesWorld w 5 t) := Any.strconv_ParseInt_10_at64_ok Tryz.laysC174 s hmax v h w
open Go.RowKit in
theorem Tryz.strconv_ParseInt_10_at64_range_var (s : ByteArray) (hlim : s.size ≤ 281474976710656) (h : Lib.parseIntB 64 s.data.toList = .range) (tp : TypeId) (p : Value) (w : World) (hvar : w.var? Tryz.prog "strconv.ErrRange" = some #[.iface tp p]) :
    Calls Tryz.prog 105 #[.string s, .int .i64 10, .int .i64 64] w fun e w' => ∃ N, e = .returned (.tuple #[.int .i64 (Lib.intSat 64 s.data.toList), .iface 195 (.pointer (some ⟨N, 0, none⟩))]) ∧ w.heap.size ≤ N ∧ w'.heap[N]? = some (.cells #[.string ⟨#[80, 97, 114, 115, 101, 73, 110, 116]⟩, .string s, .iface tp p] 214 (0, 0)) ∧ Below w.heap.size w w' := Any.strconv_ParseInt_10_at64_range_var Tryz.laysC174 s hlim h tp p w hvar
end Go.Proofs
