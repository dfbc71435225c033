/- The library contracts that this claim uses, laid at this translation by the kit (its plain mode), cut to what is used. -/
import Derived.Shelf.Small.Bits
import Derived.Shelf.Strconv.Itoa0
import Derived.Shelf.Strconv.Itoa1
import Derived.Shelf.LaysM
import Derived.Shelf.Strconv.Itoa2
import Derived.Shelf.Strconv.Itoa3
import Derived.Shelf.Strconv.ParseIntEmpty
import Derived.Shelf.Strconv.Clone
import Derived.Shelf.Strconv.SyntaxError
import Derived.Shelf.LaysC
import Derived.Shelf.Strconv.ToError
import Derived.Shelf.Strconv.Lower
import Derived.Shelf.Strconv.ParseUint10
import Derived.Shelf.Strconv.ParseUint10Empty
import Derived.Shelf.Strconv.ParseUint10Any
import Derived.Shelf.Strconv.ParseInt10
import Derived.Shelf.Strconv.RangeError
import Derived.Shelf.Strconv.ToErrorRange
import Derived.Shelf.Strconv.ParseUintEmpty
import Derived.Shelf.Strconv.ParseUint10b64
import Derived.Shelf.Strconv.ParseUint10b32
import Derived.Shelf.Strconv.ParseUint10b16
import Derived.Shelf.Strconv.ParseUint10b8
import Derived.Shelf.Strconv.ParseUint10At
import Derived.Shelf.Strconv.ParseInt10At64
import Derived.Shelf.Strconv.ParseInt10At32
import Derived.Shelf.Strconv.ParseInt10At16
import Derived.Shelf.Strconv.ParseInt10At8
import Derived.Shelf.Strconv.ParseInt10All
import Derived.Shelf.Strconv.ParseIntPublic10
import Derived.Shelf.Strconv.ErrVarParseInt
import Derived.Ground.SlgcProg
import Derived.Shelf.SlicesG.Cmp
import Derived.Ground.SlgmProg
import Derived.Shelf.SortM.Plain
import Derived.Shelf.SortM.SortNone
import Derived.Test.YtgeofijddhflaaaGreatDoorProg
import Derived.Test.YtgeofijddhflaaaGreatDoorShelf
namespace Go.Proofs
open Go.Shelf
def Tryz.laysC174_ren : Go.Shelf.Ren := ⟨fun | 174 => 174 | 247 => 202 | 245 => 203 | 287 => 217 | 279 => 218 | 280 => 219 | 281 => 220 | 282 => 221 | 321 => 228 | 322 => 229 | 316 => 230 | 171 => 155 | 205 => 231 | 243 => 190 | 246 => 212 | 283 => 223 | 284 => 224 | 285 => 225 | 286 => 226 | 129 => 185 | 317 => 232 | 318 => 233 | 319 => 234 | 320 => 235 | 337 => 236 | 338 => 237 | n => n, fun | 9 => 9 | 3 => 3 | 2 => 2 | 75 => 201 | 85 => 202 | 4 => 4 | 167 => 241 | 5 => 5 | 53 => 187 | 175 => 242 | 46 => 181 | 168 => 244 | 37 => 34 | 0 => 0 | 210 => 258 | 21 => 21 | 127 => 263 | 145 => 266 | 143 => 264 | 171 => 250 | 173 => 252 | 212 => 261 | 51 => 214 | 20 => 20 | 213 => 262 | 232 => 267 | 233 => 268 | 80 => 107 | n => n, fun | 15 => 1 | 16 => 2 | 17 => 3 | 18 => 4 | 19 => 5 | n => n⟩
theorem Tryz.laysC174 : Go.Proofs.LaysC.n174 Tryz.prog Tryz.laysC174_ren := {
  mixed := by kernel_rfl
  f129 := Tryz.func185.trans (congrArg some (by kernel_rfl))
  f171 := Tryz.func155.trans (congrArg some (by kernel_rfl))
  f174 := Tryz.func174.trans (congrArg some (by kernel_rfl))
  f205 := Tryz.func231.trans (congrArg some (by kernel_rfl))
  f243 := Tryz.func190.trans (congrArg some (by kernel_rfl))
  f245 := Tryz.func203.trans (congrArg some (by kernel_rfl))
  f246 := Tryz.func212.trans (congrArg some (by kernel_rfl))
  f247 := Tryz.func202.trans (congrArg some (by kernel_rfl))
  f279 := Tryz.func218.trans (congrArg some (by kernel_rfl))
  f280 := Tryz.func219.trans (congrArg some (by kernel_rfl))
  f281 := Tryz.func220.trans (congrArg some (by kernel_rfl))
  f282 := Tryz.func221.trans (congrArg some (by kernel_rfl))
  f283 := Tryz.func223.trans (congrArg some (by kernel_rfl))
  f284 := Tryz.func224.trans (congrArg some (by kernel_rfl))
  f285 := Tryz.func225.trans (congrArg some (by kernel_rfl))
  f286 := Tryz.func226.trans (congrArg some (by kernel_rfl))
  f287 := Tryz.func217.trans (congrArg some (by kernel_rfl))
  f316 := Tryz.func230.trans (congrArg some (by kernel_rfl))
  f317 := Tryz.func232.trans (congrArg some (by kernel_rfl))
  f318 := Tryz.func233.trans (congrArg some (by kernel_rfl))
  f319 := Tryz.func234.trans (congrArg some (by kernel_rfl))
  f320 := Tryz.func235.trans (congrArg some (by kernel_rfl))
  f321 := Tryz.func228.trans (congrArg some (by kernel_rfl))
  f322 := Tryz.func229.trans (congrArg some (by kernel_rfl))
  f337 := Tryz.func236.trans (congrArg some (by kernel_rfl))
  f338 := Tryz.func237.trans (congrArg some (by kernel_rfl))
  t0 := Tryz.underlying0
  a0 := Tryz.isAgg0
  z0 := Tryz.sizeOf0
  v0 := Tryz.zeroValue0
  t2 := Tryz.underlying2
  a2 := Tryz.isAgg2
  z2 := Tryz.sizeOf2
  v2 := Tryz.zeroValue2
  t3 := Tryz.underlying3
  a3 := Tryz.isAgg3
  z3 := Tryz.sizeOf3
  v3 := Tryz.zeroValue3
  t4 := Tryz.underlying4
  a4 := Tryz.isAgg4
  z4 := Tryz.sizeOf4
  v4 := Tryz.zeroValue4
  t5 := Tryz.underlying5
  a5 := Tryz.isAgg5
  z5 := Tryz.sizeOf5
  v5 := Tryz.zeroValue5
  t9 := Tryz.underlying9
  a9 := Tryz.isAgg9
  z9 := Tryz.sizeOf9
  v9 := Tryz.zeroValue9
  t20 := Tryz.underlying20
  a20 := Tryz.isAgg20
  z20 := Tryz.sizeOf20
  v20 := Tryz.zeroValue20
  t21 := Tryz.underlying21
  a21 := Tryz.isAgg21
  z21 := Tryz.sizeOf21
  v21 := Tryz.zeroValue21
  t37 := Tryz.underlying34
  a37 := Tryz.isAgg34
  z37 := Tryz.sizeOf34
  v37 := Tryz.zeroValue34
  t46 := Tryz.underlying181
  a46 := Tryz.isAgg181
  z46 := Tryz.sizeOf181
  v46 := Tryz.zeroValue181
  t51 := Tryz.underlying214
  a51 := Tryz.isAgg214
  z51 := Tryz.sizeOf214
  v51 := Tryz.zeroValue214
  t53 := Tryz.underlying187
  a53 := Tryz.isAgg187
  z53 := Tryz.sizeOf187
  v53 := Tryz.zeroValue187
  t75 := Tryz.underlying201
  a75 := Tryz.isAgg201
  z75 := Tryz.sizeOf201
  v75 := Tryz.zeroValue201
  t85 := Tryz.underlying202
  a85 := Tryz.isAgg202
  z85 := Tryz.sizeOf202
  v85 := Tryz.zeroValue202
  t127 := Tryz.underlying263
  a127 := Tryz.isAgg263
  z127 := Tryz.sizeOf263
  v127 := Tryz.zeroValue263
  t143 := Tryz.underlying264
  a143 := Tryz.isAgg264
  z143 := Tryz.sizeOf264
  v143 := Tryz.zeroValue264
  t145 := Tryz.underlying266
  a145 := Tryz.isAgg266
  z145 := Tryz.sizeOf266
  v145 := Tryz.zeroValue266
  t167 := Tryz.underlying241
  a167 := Tryz.isAgg241
  z167 := Tryz.sizeOf241
  v167 := Tryz.zeroValue241
  t168 := Tryz.underlying244
  a168 := Tryz.isAgg244
  z168 := Tryz.sizeOf244
  v168 := Tryz.zeroValue244
  t171 := Tryz.underlying250
  a171 := Tryz.isAgg250
  z171 := Tryz.sizeOf250
  v171 := Tryz.zeroValue250
  t173 := Tryz.underlying252
  a173 := Tryz.isAgg252
  z173 := Tryz.sizeOf252
  v173 := Tryz.zeroValue252
  t175 := Tryz.underlying242
  a175 := Tryz.isAgg242
  z175 := Tryz.sizeOf242
  v175 := Tryz.zeroValue242
  t210 := Tryz.underlying258
  a210 := Tryz.isAgg258
  z210 := Tryz.sizeOf258
  v210 := Tryz.zeroValue258
  t212 := Tryz.underlying261
  a212 := Tryz.isAgg261
  z212 := Tryz.sizeOf261
  v212 := Tryz.zeroValue261
  t213 := Tryz.underlying262
  a213 := Tryz.isAgg262
  z213 := Tryz.sizeOf262
  t232 := Tryz.underlying267
  a232 := Tryz.isAgg267
  z232 := Tryz.sizeOf267
  v232 := Tryz.zeroValue267
  t233 := Tryz.underlying268
  a233 := Tryz.isAgg268
  z233 := Tryz.sizeOf268
  v233 := Tryz.zeroValue268
  g15 := by kernel_rfl
  g16 := by kernel_rfl
  g17 := by kernel_rfl
  g18 := by kernel_rfl
  g19 := by kernel_rfl
  t80 := Tryz.underlying107
  a80 := Tryz.isAgg107
  z80 := Tryz.sizeOf107
  v80 := Tryz.zeroValue107
  i0 := by kernel_rfl
  i2 := by kernel_rfl
  i3 := by kernel_rfl
  i4 := by kernel_rfl
  i5 := by kernel_rfl
  i9 := by kernel_rfl
  i20 := by kernel_rfl
  i21 := by kernel_rfl
  i37 := by kernel_rfl
  i46 := by kernel_rfl
  i51 := by kernel_rfl
  i53 := by kernel_rfl
  i75 := by kernel_rfl
  i80 := by kernel_rfl
  i85 := by kernel_rfl
  i127 := by kernel_rfl
  i143 := by kernel_rfl
  i145 := by kernel_rfl
  i167 := by kernel_rfl
  i168 := by kernel_rfl
  i171 := by kernel_rfl
  i173 := by kernel_rfl
  i175 := by kernel_rfl
  i210 := by kernel_rfl
  i212 := by kernel_rfl
  i232 := by kernel_rfl
  i233 := by kernel_rfl
  m15 := by kernel_rfl
  m16 := by kernel_rfl
  m17 := by kernel_rfl
  m18 := by kernel_rfl
  m19 := by kernel_rfl
  c0 := by kernel_rfl
  c2 := by kernel_rfl
  c3 := by kernel_rfl
  c4 := by kernel_rfl
  c5 := by kernel_rfl
  c9 := by kernel_rfl
  c20 := by kernel_rfl
  c21 := by kernel_rfl
  c37 := by kernel_rfl
  c46 := by kernel_rfl
  c51 := by kernel_rfl
  c53 := by kernel_rfl
  c75 := by kernel_rfl
  c80 := by kernel_rfl
  c85 := by kernel_rfl
  c127 := by kernel_rfl
  c143 := by kernel_rfl
  c145 := by kernel_rfl
  c167 := by kernel_rfl
  c168 := by kernel_rfl
  c171 := by kernel_rfl
  c173 := by kernel_rfl
  c175 := by kernel_rfl
  c210 := by kernel_rfl
  c212 := by kernel_rfl
  c213 := by kernel_rfl
  c232 := by kernel_rfl
  c233 := by kernel_rfl }
open Go.RowKit in
theorem Tryz.strconv_ParseInt_10_at64_ok (s : ByteArray) (hmax : s.size ≤ 9223372036854775806) (v : Int) (h : Lib.parseIntB 64 s.data.toList = .ok v) (w : World) :
    Calls Tryz.prog 174 #[.string s, .int .i64 10, .int .i64 64] w fun e w' => e = .returned (.tuple #[.int .i64 v, .nilIface]) ∧ (w' = w ∨ ∃ t, w' = Lib.bytesWorld w 5 t) := Any.strconv_ParseInt_10_at64_ok Tryz.laysC174 s hmax v h w
open Go.RowKit in
theorem Tryz.strconv_ParseInt_10_at64_range_var (s : ByteArray) (hlim : s.size ≤ 281474976710656) (h : Lib.parseIntB 64 s.data.toList = .range) (tp : TypeId) (p : Value) (w : World) (hvar : w.var? Tryz.prog "strconv.ErrRange" = some #[.iface tp p]) :
    Calls Tryz.prog 174 #[.string s, .int .i64 10, .int .i64 64] w fun e w' => ∃ N, e = .returned (.tuple #[.int .i64 (Lib.intSat 64 s.data.toList), .iface 244 (.pointer (some ⟨N, 0, none⟩))]) ∧ w.heap.size ≤ N ∧ w'.heap[N]? = some (.cells #[.string ⟨#[80, 97, 114, 115, 101, 73, 110, 116]⟩, .string s, .iface tp p] 258 (0, 0)) ∧ Below w.heap.size w w' := Any.strconv_ParseInt_10_at64_range_var Tryz.laysC174 s hlim h tp p w hvar
end Go.Proofs
