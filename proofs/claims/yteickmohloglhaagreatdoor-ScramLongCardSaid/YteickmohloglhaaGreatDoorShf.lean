/-
  The shelf's contracts (strings_Cut, strings_CutPrefix, strings_IndexByte, strconv_Atoi_ok, strconv_Itoa), laid at this dump by the kit's programs (lay-shelf, lay-plain).
-/
import Derived.Shelf.Strings.Builder1
import Derived.Shelf.Small.Strs
import Derived.Shelf.Small.Wraps
import Derived.Shelf.Strings.BuilderF
import Derived.Shelf.Strings.BuilderK
import Derived.Shelf.Strconv.Atoi
import Derived.Shelf.Strconv.Itoa0
import Derived.Shelf.Strconv.Itoa1
import Derived.Shelf.LaysM
import Derived.Shelf.Strconv.Itoa2
import Derived.Shelf.Strconv.Itoa3
import Derived.Shelf.Strconv.AtoiErrFast
import Derived.Shelf.Strconv.ParseIntEmpty
import Derived.Shelf.Strconv.AtoiFail
import Derived.Shelf.Strconv.Clone
import Derived.Shelf.Strconv.SyntaxError
import Derived.Shelf.LaysC
import Derived.Shelf.Strconv.ToError
import Derived.Shelf.Strconv.Lower
import Derived.Shelf.Strconv.ParseUint10
import Derived.Shelf.Strconv.ParseUint10Empty
import Derived.Shelf.Strconv.ParseUint10Any
import Derived.Shelf.Strconv.ParseInt10
import Derived.Shelf.Strconv.AtoiLong
import Derived.Shelf.Strconv.AtoiInnerAll
import Derived.Shelf.Strconv.RangeError
import Derived.Shelf.Strconv.ToErrorRange
import Derived.Shelf.Strconv.AtoiAll
import Derived.Shelf.Strconv.ErrVarAll
import Derived.Shelf.Strings.Search1
import Derived.Shelf.Strings.Search2
import Derived.Shelf.Strings.Cut
import Derived.Shelf.Strings.Shaped
import Derived.Shelf.Strings.Prefix
import Derived.Test.YteickmohloglhaaGreatDoorProg
namespace Go.Proofs
open Go.Shelf
def Tryz.lays137_ren : Go.Shelf.Ren := ⟨fun | 137 => 53 | 217 => 63 | 266 => 78 | n => n, fun | 9 => 9 | 5 => 5 | 3 => 3 | n => n, fun | n => n⟩
theorem Tryz.lays137 : Go.Proofs.Lays.n137 Tryz.prog Tryz.lays137_ren := {
  mixed := by kernel_rfl
  f137 := Tryz.func53.trans (congrArg some (by kernel_rfl))
  f217 := Tryz.func63.trans (congrArg some (by kernel_rfl))
  f266 := Tryz.func78.trans (congrArg some (by kernel_rfl))
  t3 := Tryz.underlying3
  a3 := Tryz.isAgg3
  z3 := Tryz.sizeOf3
  v3 := Tryz.zeroValue3
  t5 := Tryz.underlying5
  a5 := Tryz.isAgg5
  z5 := Tryz.sizeOf5
  v5 := Tryz.zeroValue5
  t9 := Tryz.underlying9
  a9 := Tryz.isAgg9
  z9 := Tryz.sizeOf9
  v9 := Tryz.zeroValue9 }
open Go.RowKit in
theorem Tryz.strings_IndexByte (s : ByteArray) (c : Int) (w : World) :
    Calls Tryz.prog 53 #[.string s, .int .u8 c] w fun e w' => e = .returned (.int .i64 (Lib.indexByte s.data.toList c.toNat.toUInt8)) ∧ w' = w := Any.strings_IndexByte Tryz.lays137 s c w
def Tryz.lays103_ren : Go.Shelf.Ren := ⟨fun | 103 => 18 | 210 => 37 | 206 => 54 | n => n, fun | 9 => 9 | 4 => 4 | 24 => 58 | 3 => 3 | n => n, fun | n => n⟩
theorem Tryz.lays103 : Go.Proofs.Lays.n103 Tryz.prog Tryz.lays103_ren := {
  mixed := by kernel_rfl
  f103 := Tryz.func18.trans (congrArg some (by kernel_rfl))
  f206 := Tryz.func54.trans (congrArg some (by kernel_rfl))
  f210 := Tryz.func37.trans (congrArg some (by kernel_rfl))
  t3 := Tryz.underlying3
  a3 := Tryz.isAgg3
  z3 := Tryz.sizeOf3
  v3 := Tryz.zeroValue3
  t4 := Tryz.underlying4
  a4 := Tryz.isAgg4
  z4 := Tryz.sizeOf4
  v4 := Tryz.zeroValue4
  t9 := Tryz.underlying9
  a9 := Tryz.isAgg9
  z9 := Tryz.sizeOf9
  v9 := Tryz.zeroValue9
  t24 := Tryz.underlying58
  a24 := Tryz.isAgg58
  z24 := Tryz.sizeOf58
  v24 := Tryz.zeroValue58 }
open Go.RowKit in
theorem Tryz.strings_CutPrefix (s p : ByteArray) (w : World) :
    Calls Tryz.prog 18 #[.string s, .string p] w fun e w' => e = .returned (.tuple #[.string ⟨(Lib.trimPrefix s.data.toList p.data.toList).toArray⟩, .bool (Lib.hasPrefix s.data.toList p.data.toList)]) ∧ w' = w := Any.strings_CutPrefix Tryz.lays103 s p w
def Tryz.laysM171_ren : Go.Shelf.Ren := ⟨fun | 171 => 49 | 243 => 62 | 246 => 77 | 283 => 85 | 284 => 86 | 285 => 87 | 286 => 88 | 129 => 92 | 317 => 91 | 318 => 93 | 319 => 94 | 320 => 95 | 337 => 96 | 338 => 97 | n => n, fun | 3 => 3 | 9 => 9 | 2 => 2 | 4 => 4 | 171 => 136 | 0 => 0 | 53 => 130 | 37 => 25 | 5 => 5 | 173 => 139 | 212 => 146 | 51 => 123 | 20 => 20 | 213 => 147 | 46 => 109 | 232 => 151 | 233 => 152 | n => n, fun | 17 => 4 | 18 => 5 | 19 => 6 | n => n⟩
theorem Tryz.laysM171 : Go.Proofs.LaysM.n171 Tryz.prog Tryz.laysM171_ren := {
  mixed := by kernel_rfl
  f129 := Tryz.func92.trans (congrArg some (by kernel_rfl))
  f171 := Tryz.func49.trans (congrArg some (by kernel_rfl))
  f243 := Tryz.func62.trans (congrArg some (by kernel_rfl))
  f246 := Tryz.func77.trans (congrArg some (by kernel_rfl))
  f283 := Tryz.func85.trans (congrArg some (by kernel_rfl))
  f284 := Tryz.func86.trans (congrArg some (by kernel_rfl))
  f285 := Tryz.func87.trans (congrArg some (by kernel_rfl))
  f286 := Tryz.func88.trans (congrArg some (by kernel_rfl))
  f317 := Tryz.func91.trans (congrArg some (by kernel_rfl))
  f318 := Tryz.func93.trans (congrArg some (by kernel_rfl))
  f319 := Tryz.func94.trans (congrArg some (by kernel_rfl))
  f320 := Tryz.func95.trans (congrArg some (by kernel_rfl))
  f337 := Tryz.func96.trans (congrArg some (by kernel_rfl))
  f338 := Tryz.func97.trans (congrArg some (by kernel_rfl))
  t0 := Tryz.underlying0
  a0 := Tryz.isAgg0
  z0 := Tryz.sizeOf0
  v0 := Tryz.zeroValue0
  t2 := Tryz.underlying2
  a2 := Tryz.isAgg2
  z2 := Tryz.sizeOf2
  v2 := Tryz.zeroValue2
  t3 := Tryz.underlying3
  a3 := Tryz.isAgg3
  z3 := Tryz.sizeOf3
  v3 := Tryz.zeroValue3
  t4 := Tryz.underlying4
  a4 := Tryz.isAgg4
  z4 := Tryz.sizeOf4
  v4 := Tryz.zeroValue4
  t5 := Tryz.underlying5
  a5 := Tryz.isAgg5
  z5 := Tryz.sizeOf5
  v5 := Tryz.zeroValue5
  t9 := Tryz.underlying9
  a9 := Tryz.isAgg9
  z9 := Tryz.sizeOf9
  v9 := Tryz.zeroValue9
  t20 := Tryz.underlying20
  a20 := Tryz.isAgg20
  z20 := Tryz.sizeOf20
  v20 := Tryz.zeroValue20
  t37 := Tryz.underlying25
  a37 := Tryz.isAgg25
  z37 := Tryz.sizeOf25
  v37 := Tryz.zeroValue25
  t46 := Tryz.underlying109
  a46 := Tryz.isAgg109
  z46 := Tryz.sizeOf109
  v46 := Tryz.zeroValue109
  t51 := Tryz.underlying123
  a51 := Tryz.isAgg123
  z51 := Tryz.sizeOf123
  v51 := Tryz.zeroValue123
  t53 := Tryz.underlying130
  a53 := Tryz.isAgg130
  z53 := Tryz.sizeOf130
  v53 := Tryz.zeroValue130
  t171 := Tryz.underlying136
  a171 := Tryz.isAgg136
  z171 := Tryz.sizeOf136
  v171 := Tryz.zeroValue136
  t173 := Tryz.underlying139
  a173 := Tryz.isAgg139
  z173 := Tryz.sizeOf139
  v173 := Tryz.zeroValue139
  t212 := Tryz.underlying146
  a212 := Tryz.isAgg146
  z212 := Tryz.sizeOf146
  v212 := Tryz.zeroValue146
  t213 := Tryz.underlying147
  a213 := Tryz.isAgg147
  z213 := Tryz.sizeOf147
  t232 := Tryz.underlying151
  a232 := Tryz.isAgg151
  z232 := Tryz.sizeOf151
  v232 := Tryz.zeroValue151
  t233 := Tryz.underlying152
  a233 := Tryz.isAgg152
  z233 := Tryz.sizeOf152
  v233 := Tryz.zeroValue152
  g17 := by kernel_rfl
  g18 := by kernel_rfl
  g19 := by kernel_rfl
  i0 := by kernel_rfl
  i2 := by kernel_rfl
  i3 := by kernel_rfl
  i4 := by kernel_rfl
  i5 := by kernel_rfl
  i9 := by kernel_rfl
  i20 := by kernel_rfl
  i37 := by kernel_rfl
  i46 := by kernel_rfl
  i51 := by kernel_rfl
  i53 := by kernel_rfl
  i171 := by kernel_rfl
  i173 := by kernel_rfl
  i212 := by kernel_rfl
  i232 := by kernel_rfl
  i233 := by kernel_rfl
  m17 := by kernel_rfl
  m18 := by kernel_rfl
  m19 := by kernel_rfl }
open Go.RowKit Go.Sort Go.Lib in
theorem Tryz.strconv_Itoa (n : Int) (h0 : -9223372036854775808 ≤ n) (h1 : n ≤ 9223372036854775807) (w : World) (htab : Lib.TabIs Tryz.prog w "internal/strconv.uint64pow10" .u64 Lib.pow10Tab) :
    Calls Tryz.prog 49 #[.int .i64 n] w fun e w' => e = .returned (.string ⟨(Lib.itoa n).toArray⟩) ∧ ∃ k os, w' = grow (w.drewN k) os := Any.strconv_Itoa Tryz.laysM171 n h0 h1 w htab
def Tryz.laysC172_ren : Go.Shelf.Ren := ⟨fun | 172 => 48 | 244 => 60 | 245 => 61 | 247 => 72 | 279 => 73 | 280 => 74 | 281 => 75 | 282 => 76 | 287 => 82 | 316 => 83 | 171 => 49 | 205 => 84 | 321 => 89 | 322 => 90 | 243 => 62 | 246 => 77 | 283 => 85 | 284 => 86 | 285 => 87 | 286 => 88 | 129 => 92 | 317 => 91 | 318 => 93 | 319 => 94 | 320 => 95 | 337 => 96 | 338 => 97 | n => n, fun | 9 => 9 | 3 => 3 | 75 => 91 | 76 => 92 | 4 => 4 | 5 => 5 | 167 => 116 | 37 => 25 | 0 => 0 | 85 => 117 | 2 => 2 | 168 => 119 | 53 => 130 | 175 => 131 | 46 => 109 | 210 => 134 | 127 => 105 | 145 => 144 | 143 => 142 | 21 => 21 | 171 => 136 | 173 => 139 | 212 => 146 | 51 => 123 | 20 => 20 | 213 => 147 | 232 => 151 | 233 => 152 | 80 => 39 | n => n, fun | 15 => 2 | 16 => 3 | 17 => 4 | 18 => 5 | 19 => 6 | n => n⟩
theorem Tryz.laysC172 : Go.Proofs.LaysC.n172 Tryz.prog Tryz.laysC172_ren := {
  mixed := by kernel_rfl
  f129 := Tryz.func92.trans (congrArg some (by kernel_rfl))
  f171 := Tryz.func49.trans (congrArg some (by kernel_rfl))
  f172 := Tryz.func48.trans (congrArg some (by kernel_rfl))
  f205 := Tryz.func84.trans (congrArg some (by kernel_rfl))
  f243 := Tryz.func62.trans (congrArg some (by kernel_rfl))
  f244 := Tryz.func60.trans (congrArg some (by kernel_rfl))
  f245 := Tryz.func61.trans (congrArg some (by kernel_rfl))
  f246 := Tryz.func77.trans (congrArg some (by kernel_rfl))
  f247 := Tryz.func72.trans (congrArg some (by kernel_rfl))
  f279 := Tryz.func73.trans (congrArg some (by kernel_rfl))
  f280 := Tryz.func74.trans (congrArg some (by kernel_rfl))
  f281 := Tryz.func75.trans (congrArg some (by kernel_rfl))
  f282 := Tryz.func76.trans (congrArg some (by kernel_rfl))
  f283 := Tryz.func85.trans (congrArg some (by kernel_rfl))
  f284 := Tryz.func86.trans (congrArg some (by kernel_rfl))
  f285 := Tryz.func87.trans (congrArg some (by kernel_rfl))
  f286 := Tryz.func88.trans (congrArg some (by kernel_rfl))
  f287 := Tryz.func82.trans (congrArg some (by kernel_rfl))
  f316 := Tryz.func83.trans (congrArg some (by kernel_rfl))
  f317 := Tryz.func91.trans (congrArg some (by kernel_rfl))
  f318 := Tryz.func93.trans (congrArg some (by kernel_rfl))
  f319 := Tryz.func94.trans (congrArg some (by kernel_rfl))
  f320 := Tryz.func95.trans (congrArg some (by kernel_rfl))
  f321 := Tryz.func89.trans (congrArg some (by kernel_rfl))
  f322 := Tryz.func90.trans (congrArg some (by kernel_rfl))
  f337 := Tryz.func96.trans (congrArg some (by kernel_rfl))
  f338 := Tryz.func97.trans (congrArg some (by kernel_rfl))
  t0 := Tryz.underlying0
  a0 := Tryz.isAgg0
  z0 := Tryz.sizeOf0
  v0 := Tryz.zeroValue0
  t2 := Tryz.underlying2
  a2 := Tryz.isAgg2
  z2 := Tryz.sizeOf2
  v2 := Tryz.zeroValue2
  t3 := Tryz.underlying3
  a3 := Tryz.isAgg3
  z3 := Tryz.sizeOf3
  v3 := Tryz.zeroValue3
  t4 := Tryz.underlying4
  a4 := Tryz.isAgg4
  z4 := Tryz.sizeOf4
  v4 := Tryz.zeroValue4
  t5 := Tryz.underlying5
  a5 := Tryz.isAgg5
  z5 := Tryz.sizeOf5
  v5 := Tryz.zeroValue5
  t9 := Tryz.underlying9
  a9 := Tryz.isAgg9
  z9 := Tryz.sizeOf9
  v9 := Tryz.zeroValue9
  t20 := Tryz.underlying20
  a20 := Tryz.isAgg20
  z20 := Tryz.sizeOf20
  v20 := Tryz.zeroValue20
  t21 := Tryz.underlying21
  a21 := Tryz.isAgg21
  z21 := Tryz.sizeOf21
  v21 := Tryz.zeroValue21
  t37 := Tryz.underlying25
  a37 := Tryz.isAgg25
  z37 := Tryz.sizeOf25
  v37 := Tryz.zeroValue25
  t46 := Tryz.underlying109
  a46 := Tryz.isAgg109
  z46 := Tryz.sizeOf109
  v46 := Tryz.zeroValue109
  t51 := Tryz.underlying123
  a51 := Tryz.isAgg123
  z51 := Tryz.sizeOf123
  v51 := Tryz.zeroValue123
  t53 := Tryz.underlying130
  a53 := Tryz.isAgg130
  z53 := Tryz.sizeOf130
  v53 := Tryz.zeroValue130
  t75 := Tryz.underlying91
  a75 := Tryz.isAgg91
  z75 := Tryz.sizeOf91
  v75 := Tryz.zeroValue91
  t76 := Tryz.underlying92
  a76 := Tryz.isAgg92
  z76 := Tryz.sizeOf92
  v76 := Tryz.zeroValue92
  t85 := Tryz.underlying117
  a85 := Tryz.isAgg117
  z85 := Tryz.sizeOf117
  v85 := Tryz.zeroValue117
  t127 := Tryz.underlying105
  a127 := Tryz.isAgg105
  z127 := Tryz.sizeOf105
  v127 := Tryz.zeroValue105
  t143 := Tryz.underlying142
  a143 := Tryz.isAgg142
  z143 := Tryz.sizeOf142
  v143 := Tryz.zeroValue142
  t145 := Tryz.underlying144
  a145 := Tryz.isAgg144
  z145 := Tryz.sizeOf144
  v145 := Tryz.zeroValue144
  t167 := Tryz.underlying116
  a167 := Tryz.isAgg116
  z167 := Tryz.sizeOf116
  v167 := Tryz.zeroValue116
  t168 := Tryz.underlying119
  a168 := Tryz.isAgg119
  z168 := Tryz.sizeOf119
  v168 := Tryz.zeroValue119
  t171 := Tryz.underlying136
  a171 := Tryz.isAgg136
  z171 := Tryz.sizeOf136
  v171 := Tryz.zeroValue136
  t173 := Tryz.underlying139
  a173 := Tryz.isAgg139
  z173 := Tryz.sizeOf139
  v173 := Tryz.zeroValue139
  t175 := Tryz.underlying131
  a175 := Tryz.isAgg131
  z175 := Tryz.sizeOf131
  v175 := Tryz.zeroValue131
  t210 := Tryz.underlying134
  a210 := Tryz.isAgg134
  z210 := Tryz.sizeOf134
  v210 := Tryz.zeroValue134
  t212 := Tryz.underlying146
  a212 := Tryz.isAgg146
  z212 := Tryz.sizeOf146
  v212 := Tryz.zeroValue146
  t213 := Tryz.underlying147
  a213 := Tryz.isAgg147
  z213 := Tryz.sizeOf147
  t232 := Tryz.underlying151
  a232 := Tryz.isAgg151
  z232 := Tryz.sizeOf151
  v232 := Tryz.zeroValue151
  t233 := Tryz.underlying152
  a233 := Tryz.isAgg152
  z233 := Tryz.sizeOf152
  v233 := Tryz.zeroValue152
  g15 := by kernel_rfl
  g16 := by kernel_rfl
  g17 := by kernel_rfl
  g18 := by kernel_rfl
  g19 := by kernel_rfl
  t80 := Tryz.underlying39
  a80 := Tryz.isAgg39
  z80 := Tryz.sizeOf39
  v80 := Tryz.zeroValue39
  i0 := by kernel_rfl
  i2 := by kernel_rfl
  i3 := by kernel_rfl
  i4 := by kernel_rfl
  i5 := by kernel_rfl
  i9 := by kernel_rfl
  i20 := by kernel_rfl
  i21 := by kernel_rfl
  i37 := by kernel_rfl
  i46 := by kernel_rfl
  i51 := by kernel_rfl
  i53 := by kernel_rfl
  i75 := by kernel_rfl
  i76 := by kernel_rfl
  i80 := by kernel_rfl
  i85 := by kernel_rfl
  i127 := by kernel_rfl
  i143 := by kernel_rfl
  i145 := by kernel_rfl
  i167 := by kernel_rfl
  i168 := by kernel_rfl
  i171 := by kernel_rfl
  i173 := by kernel_rfl
  i175 := by kernel_rfl
  i210 := by kernel_rfl
  i212 := by kernel_rfl
  i232 := by kernel_rfl
  i233 := by kernel_rfl
  m15 := by kernel_rfl
  m16 := by kernel_rfl
  m17 := by kernel_rfl
  m18 := by kernel_rfl
  m19 := by kernel_rfl
  c0 := by kernel_rfl
  c2 := by kernel_rfl
  c3 := by kernel_rfl
  c4 := by kernel_rfl
  c5 := by kernel_rfl
  c9 := by kernel_rfl
  c20 := by kernel_rfl
  c21 := by kernel_rfl
  c37 := by kernel_rfl
  c46 := by kernel_rfl
  c51 := by kernel_rfl
  c53 := by kernel_rfl
  c75 := by kernel_rfl
  c76 := by kernel_rfl
  c80 := by kernel_rfl
  c85 := by kernel_rfl
  c127 := by kernel_rfl
  c143 := by kernel_rfl
  c145 := by kernel_rfl
  c167 := by kernel_rfl
  c168 := by kernel_rfl
  c171 := by kernel_rfl
  c173 := by kernel_rfl
  c175 := by kernel_rfl
  c210 := by kernel_rfl
  c212 := by kernel_rfl
  c213 := by kernel_rfl
  c232 := by kernel_rfl
  c233 := by kernel_rfl }
open Go.RowKit in
theorem Tryz.strconv_Atoi_ok (s : ByteArray) (hmax : s.size ≤ 9223372036854775806) (v : Int) (h : Lib.atoiAll s.data.toList = .ok v) (w : World) :
    Calls Tryz.prog 48 #[.string s] w fun e w' => e = .returned (.tuple #[.int .i64 v, .nilIface]) ∧ (w' = w ∨ ∃ t, w' = Lib.bytesWorld w 5 t) := Any.strconv_Atoi_ok Tryz.laysC172 s hmax v h w
def Tryz.lays145_ren : Go.Shelf.Ren := ⟨fun | 145 => 14 | 220 => 33 | 219 => 50 | 217 => 63 | 225 => 64 | 224 => 65 | 267 => 66 | 266 => 78 | 314 => 79 | n => n, fun | 9 => 9 | 4 => 4 | 59 => 53 | 3 => 3 | 5 => 5 | 46 => 109 | 146 => 124 | 51 => 123 | n => n, fun | 1 => 0 | n => n⟩
theorem Tryz.lays145 : Go.Proofs.Lays.n145 Tryz.prog Tryz.lays145_ren := {
  mixed := by kernel_rfl
  f145 := Tryz.func14.trans (congrArg some (by kernel_rfl))
  f217 := Tryz.func63.trans (congrArg some (by kernel_rfl))
  f219 := Tryz.func50.trans (congrArg some (by kernel_rfl))
  f220 := Tryz.func33.trans (congrArg some (by kernel_rfl))
  f224 := Tryz.func65.trans (congrArg some (by kernel_rfl))
  f225 := Tryz.func64.trans (congrArg some (by kernel_rfl))
  f266 := Tryz.func78.trans (congrArg some (by kernel_rfl))
  f267 := Tryz.func66.trans (congrArg some (by kernel_rfl))
  f314 := Tryz.func79.trans (congrArg some (by kernel_rfl))
  t3 := Tryz.underlying3
  a3 := Tryz.isAgg3
  z3 := Tryz.sizeOf3
  v3 := Tryz.zeroValue3
  t4 := Tryz.underlying4
  a4 := Tryz.isAgg4
  z4 := Tryz.sizeOf4
  v4 := Tryz.zeroValue4
  t5 := Tryz.underlying5
  a5 := Tryz.isAgg5
  z5 := Tryz.sizeOf5
  v5 := Tryz.zeroValue5
  t9 := Tryz.underlying9
  a9 := Tryz.isAgg9
  z9 := Tryz.sizeOf9
  v9 := Tryz.zeroValue9
  t46 := Tryz.underlying109
  a46 := Tryz.isAgg109
  z46 := Tryz.sizeOf109
  v46 := Tryz.zeroValue109
  t51 := Tryz.underlying123
  a51 := Tryz.isAgg123
  z51 := Tryz.sizeOf123
  v51 := Tryz.zeroValue123
  t59 := Tryz.underlying53
  a59 := Tryz.isAgg53
  z59 := Tryz.sizeOf53
  v59 := Tryz.zeroValue53
  t146 := Tryz.underlying124
  a146 := Tryz.isAgg124
  z146 := Tryz.sizeOf124
  v146 := Tryz.zeroValue124
  g1 := by kernel_rfl }
open Go.RowKit Go.Lib in
theorem Tryz.strings_Cut (s sep : ByteArray) (m : Int) (w : World) (hs : s.size < 4294967281) (hm : w.cell? ⟨0, 0, none⟩ = some (.int .i64 m)) :
    Calls Tryz.prog 14 #[.string s, .string sep] w fun e w' => e = .returned (.tuple #[.string ⟨(Lib.cut s.data.toList sep.data.toList).1.toArray⟩, .string ⟨(Lib.cut s.data.toList sep.data.toList).2.1.toArray⟩, .bool (Lib.cut s.data.toList sep.data.toList).2.2]) ∧ ∃ n, w' = w.drewN n := Any.strings_Cut Tryz.lays145 s sep m w hs hm
end Go.Proofs
