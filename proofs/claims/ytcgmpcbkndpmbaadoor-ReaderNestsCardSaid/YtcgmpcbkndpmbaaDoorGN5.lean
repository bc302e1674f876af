import Derived.Shelf.Strings.Builder1
import Derived.Shelf.Small.Utf8
import Derived.Shelf.Small.Strs
import Derived.Shelf.Strings.BuilderF
import Derived.Shelf.Strings.BuilderK
import Derived.Shelf.Strconv.Itoa0
import Derived.Shelf.Strconv.Itoa1
import Derived.Shelf.LaysM
import Derived.Shelf.Strconv.Itoa2
import Derived.Shelf.Strconv.Itoa3
import Derived.Shelf.Strconv.ParseIntEmpty
import Derived.Shelf.Strconv.Clone
import Derived.Shelf.Strconv.SyntaxError
import Derived.Shelf.LaysC
import Derived.Shelf.Strconv.ToError
import Derived.Shelf.Strconv.Lower
import Derived.Shelf.Strconv.ParseUint10
import Derived.Shelf.Strconv.ParseUint10Empty
import Derived.Shelf.Strconv.ParseUint10Any
import Derived.Shelf.Strconv.ParseInt10
import Derived.Shelf.Strconv.RangeError
import Derived.Shelf.Strconv.ToErrorRange
import Derived.Shelf.Strconv.ParseUintEmpty
import Derived.Shelf.Strconv.ParseUint10b64
import Derived.Shelf.Strconv.ParseUint10b32
import Derived.Shelf.Strconv.ParseUint10b16
import Derived.Shelf.Strconv.ParseUint10b8
import Derived.Shelf.Strconv.ParseUint10At
import Derived.Shelf.Strconv.ParseInt10At64
import Derived.Shelf.Strconv.ParseInt10At32
import Derived.Shelf.Strconv.ParseInt10At16
import Derived.Shelf.Strconv.ParseInt10At8
import Derived.Shelf.Strconv.ParseInt10All
import Derived.Shelf.Strconv.ParseIntPublic10
import Derived.Shelf.Strconv.ErrVarParseInt
import Derived.Shelf.Strings.Search1
import Derived.Shelf.Strings.Prefix
import Derived.Shelf.Strings.BuilderCap
import Derived.Ground.Names2Prog
import Derived.Ground.SlgnProg
import Derived.Test.YtcgmpcbkndpmbaaDoorProg
/-
 DERIVED: THE SHELF's CONTRACTS AT THIS DUMP, IN PLAIN WORDS (tools/lay-plain.mjs out of 'YtcgmpcbkndpmbaaDoorSH.lean', which tools/lay-shelf.mjs wrote): THE SAME DECLARATIONS UNDER THE SAME NAMES: 'import', 'namespace', 'open', 'def', 'theorem' AND NOTHING ELSE: no command of the shelf's: FOR A HAND-IN. Each laying: the table of numbers ('.._ren') and one theorem, a field a fact of the dump's own or the kernel's comparison; each contract: ONE APPLICATION.
-/
namespace Go.Proofs
open Go.Shelf
def Tryd.lays137_ren : Go.Shelf.Ren := ⟨fun | 137 => 29 | 217 => 42 | 266 => 59 | n => n, fun | 9 => 9 | 5 => 5 | 3 => 3 | n => n, fun | n => n⟩
theorem Tryd.lays137 : Go.Proofs.Lays.n137 Tryd.prog Tryd.lays137_ren := {
 mixed := by kernel_rfl
 f137 := Tryd.func29.trans (congrArg some (by kernel_rfl))
 f217 := Tryd.func42.trans (congrArg some (by kernel_rfl))
 f266 := Tryd.func59.trans (congrArg some (by kernel_rfl))
 t3 := Tryd.underlying3
 a3 := Tryd.isAgg3
 z3 := Tryd.sizeOf3
 v3 := Tryd.zeroValue3
 t5 := Tryd.underlying5
 a5 := Tryd.isAgg5
 z5 := Tryd.sizeOf5
 v5 := Tryd.zeroValue5
 t9 := Tryd.underlying9
 a9 := Tryd.isAgg9
 z9 := Tryd.sizeOf9
 v9 := Tryd.zeroValue9 }
open Go.RowKit in
theorem Tryd.strings_IndexByte (s : ByteArray) (c : Int) (w : World) :
 Calls Tryd.prog 29 #[.string s, .int .u8 c] w fun e w' => e = .returned (.int .i64 (Lib.indexByte s.data.toList c.toNat.toUInt8)) /\ w' = w := Any.strings_IndexByte Tryd.lays137 s c w
def Tryd.laysC174_ren : Go.Shelf.Ren := ⟨fun | 174 => 50 | 247 => 63 | 245 => 64 | 287 => 71 | 279 => 72 | 280 => 73 | 281 => 74 | 282 => 75 | 321 => 78 | 322 => 79 | 316 => 80 | 171 => 82 | 205 => 81 | 243 => 83 | 246 => 84 | 283 => 85 | 284 => 86 | 285 => 87 | 286 => 88 | 129 => 90 | 317 => 89 | 318 => 91 | 319 => 92 | 320 => 93 | 337 => 94 | 338 => 95 | n => n, fun | 9 => 9 | 3 => 3 | 2 => 2 | 75 => 71 | 85 => 91 | 4 => 4 | 167 => 106 | 5 => 5 | 53 => 107 | 175 => 108 | 46 => 95 | 168 => 110 | 37 => 65 | 0 => 0 | 210 => 118 | 21 => 21 | 127 => 90 | 145 => 122 | 143 => 120 | 171 => 124 | 173 => 127 | 212 => 131 | 51 => 132 | 20 => 20 | 213 => 133 | 232 => 136 | 233 => 137 | 80 => 77 | n => n, fun | 15 => 1 | 16 => 2 | 17 => 3 | 18 => 4 | 19 => 5 | n => n⟩
theorem Tryd.laysC174 : Go.Proofs.LaysC.n174 Tryd.prog Tryd.laysC174_ren := {
 mixed := by kernel_rfl
 f129 := Tryd.func90.trans (congrArg some (by kernel_rfl))
 f171 := Tryd.func82.trans (congrArg some (by kernel_rfl))
 f174 := Tryd.func50.trans (congrArg some (by kernel_rfl))
 f205 := Tryd.func81.trans (congrArg some (by kernel_rfl))
 f243 := Tryd.func83.trans (congrArg some (by kernel_rfl))
 f245 := Tryd.func64.trans (congrArg some (by kernel_rfl))
 f246 := Tryd.func84.trans (congrArg some (by kernel_rfl))
 f247 := Tryd.func63.trans (congrArg some (by kernel_rfl))
 f279 := Tryd.func72.trans (congrArg some (by kernel_rfl))
 f280 := Tryd.func73.trans (congrArg some (by kernel_rfl))
 f281 := Tryd.func74.trans (congrArg some (by kernel_rfl))
 f282 := Tryd.func75.trans (congrArg some (by kernel_rfl))
 f283 := Tryd.func85.trans (congrArg some (by kernel_rfl))
 f284 := Tryd.func86.trans (congrArg some (by kernel_rfl))
 f285 := Tryd.func87.trans (congrArg some (by kernel_rfl))
 f286 := Tryd.func88.trans (congrArg some (by kernel_rfl))
 f287 := Tryd.func71.trans (congrArg some (by kernel_rfl))
 f316 := Tryd.func80.trans (congrArg some (by kernel_rfl))
 f317 := Tryd.func89.trans (congrArg some (by kernel_rfl))
 f318 := Tryd.func91.trans (congrArg some (by kernel_rfl))
 f319 := Tryd.func92.trans (congrArg some (by kernel_rfl))
 f320 := Tryd.func93.trans (congrArg some (by kernel_rfl))
 f321 := Tryd.func78.trans (congrArg some (by kernel_rfl))
 f322 := Tryd.func79.trans (congrArg some (by kernel_rfl))
 f337 := Tryd.func94.trans (congrArg some (by kernel_rfl))
 f338 := Tryd.func95.trans (congrArg some (by kernel_rfl))
 t0 := Tryd.underlying0
 a0 := Tryd.isAgg0
 z0 := Tryd.sizeOf0
 v0 := Tryd.zeroValue0
 t2 := Tryd.underlying2
 a2 := Tryd.isAgg2
 z2 := Tryd.sizeOf2
 v2 := Tryd.zeroValue2
 t3 := Tryd.underlying3
 a3 := Tryd.isAgg3
 z3 := Tryd.sizeOf3
 v3 := Tryd.zeroValue3
 t4 := Tryd.underlying4
 a4 := Tryd.isAgg4
 z4 := Tryd.sizeOf4
 v4 := Tryd.zeroValue4
 t5 := Tryd.underlying5
 a5 := Tryd.isAgg5
 z5 := Tryd.sizeOf5
 v5 := Tryd.zeroValue5
 t9 := Tryd.underlying9
 a9 := Tryd.isAgg9
 z9 := Tryd.sizeOf9
 v9 := Tryd.zeroValue9
 t20 := Tryd.underlying20
 a20 := Tryd.isAgg20
 z20 := Tryd.sizeOf20
 v20 := Tryd.zeroValue20
 t21 := Tryd.underlying21
 a21 := Tryd.isAgg21
 z21 := Tryd.sizeOf21
 v21 := Tryd.zeroValue21
 t37 := Tryd.underlying65
 a37 := Tryd.isAgg65
 z37 := Tryd.sizeOf65
 v37 := Tryd.zeroValue65
 t46 := Tryd.underlying95
 a46 := Tryd.isAgg95
 z46 := Tryd.sizeOf95
 v46 := Tryd.zeroValue95
 t51 := Tryd.underlying132
 a51 := Tryd.isAgg132
 z51 := Tryd.sizeOf132
 v51 := Tryd.zeroValue132
 t53 := Tryd.underlying107
 a53 := Tryd.isAgg107
 z53 := Tryd.sizeOf107
 v53 := Tryd.zeroValue107
 t75 := Tryd.underlying71
 a75 := Tryd.isAgg71
 z75 := Tryd.sizeOf71
 v75 := Tryd.zeroValue71
 t85 := Tryd.underlying91
 a85 := Tryd.isAgg91
 z85 := Tryd.sizeOf91
 v85 := Tryd.zeroValue91
 t127 := Tryd.underlying90
 a127 := Tryd.isAgg90
 z127 := Tryd.sizeOf90
 v127 := Tryd.zeroValue90
 t143 := Tryd.underlying120
 a143 := Tryd.isAgg120
 z143 := Tryd.sizeOf120
 v143 := Tryd.zeroValue120
 t145 := Tryd.underlying122
 a145 := Tryd.isAgg122
 z145 := Tryd.sizeOf122
 v145 := Tryd.zeroValue122
 t167 := Tryd.underlying106
 a167 := Tryd.isAgg106
 z167 := Tryd.sizeOf106
 v167 := Tryd.zeroValue106
 t168 := Tryd.underlying110
 a168 := Tryd.isAgg110
 z168 := Tryd.sizeOf110
 v168 := Tryd.zeroValue110
 t171 := Tryd.underlying124
 a171 := Tryd.isAgg124
 z171 := Tryd.sizeOf124
 v171 := Tryd.zeroValue124
 t173 := Tryd.underlying127
 a173 := Tryd.isAgg127
 z173 := Tryd.sizeOf127
 v173 := Tryd.zeroValue127
 t175 := Tryd.underlying108
 a175 := Tryd.isAgg108
 z175 := Tryd.sizeOf108
 v175 := Tryd.zeroValue108
 t210 := Tryd.underlying118
 a210 := Tryd.isAgg118
 z210 := Tryd.sizeOf118
 v210 := Tryd.zeroValue118
 t212 := Tryd.underlying131
 a212 := Tryd.isAgg131
 z212 := Tryd.sizeOf131
 v212 := Tryd.zeroValue131
 t213 := Tryd.underlying133
 a213 := Tryd.isAgg133
 z213 := Tryd.sizeOf133
 t232 := Tryd.underlying136
 a232 := Tryd.isAgg136
 z232 := Tryd.sizeOf136
 v232 := Tryd.zeroValue136
 t233 := Tryd.underlying137
 a233 := Tryd.isAgg137
 z233 := Tryd.sizeOf137
 v233 := Tryd.zeroValue137
 g15 := by kernel_rfl
 g16 := by kernel_rfl
 g17 := by kernel_rfl
 g18 := by kernel_rfl
 g19 := by kernel_rfl
 t80 := Tryd.underlying77
 a80 := Tryd.isAgg77
 z80 := Tryd.sizeOf77
 v80 := Tryd.zeroValue77
 i0 := by kernel_rfl
 i2 := by kernel_rfl
 i3 := by kernel_rfl
 i4 := by kernel_rfl
 i5 := by kernel_rfl
 i9 := by kernel_rfl
 i20 := by kernel_rfl
 i21 := by kernel_rfl
 i37 := by kernel_rfl
 i46 := by kernel_rfl
 i51 := by kernel_rfl
 i53 := by kernel_rfl
 i75 := by kernel_rfl
 i80 := by kernel_rfl
 i85 := by kernel_rfl
 i127 := by kernel_rfl
 i143 := by kernel_rfl
 i145 := by kernel_rfl
 i167 := by kernel_rfl
 i168 := by kernel_rfl
 i171 := by kernel_rfl
 i173 := by kernel_rfl
 i175 := by kernel_rfl
 i210 := by kernel_rfl
 i212 := by kernel_rfl
 i232 := by kernel_rfl
 i233 := by kernel_rfl
 m15 := by kernel_rfl
 m16 := by kernel_rfl
 m17 := by kernel_rfl
 m18 := by kernel_rfl
 m19 := by kernel_rfl
 c0 := by kernel_rfl
 c2 := by kernel_rfl
 c3 := by kernel_rfl
 c4 := by kernel_rfl
 c5 := by kernel_rfl
 c9 := by kernel_rfl
 c20 := by kernel_rfl
 c21 := by kernel_rfl
 c37 := by kernel_rfl
 c46 := by kernel_rfl
 c51 := by kernel_rfl
 c53 := by kernel_rfl
 c75 := by kernel_rfl
 c80 := by kernel_rfl
 c85 := by kernel_rfl
 c127 := by kernel_rfl
 c143 := by kernel_rfl
 c145 := by kernel_rfl
 c167 := by kernel_rfl
 c168 := by kernel_rfl
 c171 := by kernel_rfl
 c173 := by kernel_rfl
 c175 := by kernel_rfl
 c210 := by kernel_rfl
 c212 := by kernel_rfl
 c213 := by kernel_rfl
 c232 := by kernel_rfl
 c233 := by kernel_rfl }
open Go.RowKit in
theorem Tryd.strconv_ParseInt_10_at64_ok (s : ByteArray) (hmax : s.size <= 9223372036854775806) (v : Int) (h : Lib.parseIntB 64 s.data.toList = .ok v) (w : World) :
 Calls Tryd.prog 50 #[.string s, .int .i64 10, .int .i64 64] w fun e w' => e = .returned (.tuple #[.int .i64 v, .nilIface]) /\ (w' = w ∨ ∃ t, w' = Lib.bytesWorld w 5 t) := Any.strconv_ParseInt_10_at64_ok Tryd.laysC174 s hmax v h w
open Go.RowKit in
theorem Tryd.strconv_ParseInt_10_at64_range (s : ByteArray) (hlim : s.size <= 281474976710656) (h : Lib.parseIntB 64 s.data.toList = .range) (ev : Value) (w : World) (hv : w.cell? ⟨2, 0, none⟩ = some ev) (hev : ev = .nilIface ∨ ∃ te pe, ev = .iface te pe) :
 Calls Tryd.prog 50 #[.string s, .int .i64 10, .int .i64 64] w fun e w' => ∃ N, e = .returned (.tuple #[.int .i64 (Lib.intSat 64 s.data.toList), .iface 110 (.pointer (some ⟨N, 0, none⟩))]) /\ w.heap.size <= N /\ w'.heap[N]? = some (.cells #[.string ⟨#[80, 97, 114, 115, 101, 73, 110, 116]⟩, .string s, ev] 118 (0, 0)) /\ Below w.heap.size w w' := Any.strconv_ParseInt_10_at64_range Tryd.laysC174 s hlim h ev w hv hev
def Tryd.lays101_ren : Go.Shelf.Ren := ⟨fun | 101 => 62 | 208 => 70 | 206 => 61 | n => n, fun | 9 => 9 | 4 => 4 | 3 => 3 | n => n, fun | n => n⟩
theorem Tryd.lays101 : Go.Proofs.Lays.n101 Tryd.prog Tryd.lays101_ren := {
 mixed := by kernel_rfl
 f101 := Tryd.func62.trans (congrArg some (by kernel_rfl))
 f206 := Tryd.func61.trans (congrArg some (by kernel_rfl))
 f208 := Tryd.func70.trans (congrArg some (by kernel_rfl))
 t3 := Tryd.underlying3
 a3 := Tryd.isAgg3
 z3 := Tryd.sizeOf3
 v3 := Tryd.zeroValue3
 t4 := Tryd.underlying4
 a4 := Tryd.isAgg4
 z4 := Tryd.sizeOf4
 v4 := Tryd.zeroValue4
 t9 := Tryd.underlying9
 a9 := Tryd.isAgg9
 z9 := Tryd.sizeOf9
 v9 := Tryd.zeroValue9 }
open Go.RowKit Go.Lib in
theorem Tryd.strings_TrimPrefix (s p : ByteArray) (w : World) :
 Calls Tryd.prog 62 #[.string s, .string p] w fun e w' => e = .returned (.string ⟨(Lib.trimPrefix s.data.toList p.data.toList).toArray⟩) /\ w' = w := Any.strings_TrimPrefix Tryd.lays101 s p w
end Go.Proofs
