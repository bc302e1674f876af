/-
  Contracts and plain laws on the way to the statement; each says its own conditions.
-/
import Derived.Test.YtcgmpcbkndpmbaaGreatDoorProg
import Derived.Test.YtcgmpcbkndpmbaaGreatDoorGW3
import Derived.Shelf.RegionOpenPlain
import Derived.Lib.Strings
import Derived.Lib.Slices
import Derived.Lib.Walk
import Derived.Lib.Builder
import Derived.Lib.AppendStr
import Derived.Lib.UnsafeStr
import Derived.WalkKit
import Derived.Laws.Externs
section
namespace Go.Proofs.YtcgmpcbkndpmbaaGreatDoor
open Go Go.Pw
set_option linter.unusedVariables false
variable {dr : Bool} {st : PS} {id tk : Nat} {d : Option Tmp} {ty : TypeId} {pos : String} {af : Array Edge} {g : Option (Nat × Bool)} {x y : Operand}
set_option maxRecDepth 4000
theorem z1 : zeroOf? Tryz.prog 1 = some (.nilFunc) := by kernel_rfl
theorem ag2 : aggT Tryz.prog 2 = some false := by kernel_rfl
theorem sz2 : sizeOf? Tryz.prog 2 = some 1 := by kernel_rfl
theorem z2 : zeroOf? Tryz.prog 2 = some (.int .i64 0) := by kernel_rfl
theorem by2 : bytesOf? Tryz.prog 2 = some 8 := by kernel_rfl
theorem ag3 : aggT Tryz.prog 3 = some false := by kernel_rfl
theorem sz3 : sizeOf? Tryz.prog 3 = some 1 := by kernel_rfl
theorem z3 : zeroOf? Tryz.prog 3 = some (.int .i64 0) := by kernel_rfl
theorem by3 : bytesOf? Tryz.prog 3 = some 8 := by kernel_rfl
theorem ag4 : aggT Tryz.prog 4 = some false := by kernel_rfl
theorem sz4 : sizeOf? Tryz.prog 4 = some 1 := by kernel_rfl
theorem z4 : zeroOf? Tryz.prog 4 = some (.bool false) := by kernel_rfl
theorem by4 : bytesOf? Tryz.prog 4 = some 1 := by kernel_rfl
theorem ag5 : aggT Tryz.prog 5 = some false := by kernel_rfl
theorem sz5 : sizeOf? Tryz.prog 5 = some 1 := by kernel_rfl
theorem z5 : zeroOf? Tryz.prog 5 = some (.int .u8 0) := by kernel_rfl
theorem by5 : bytesOf? Tryz.prog 5 = some 1 := by kernel_rfl
theorem ag9 : aggT Tryz.prog 9 = some false := by kernel_rfl
theorem sz9 : sizeOf? Tryz.prog 9 = some 1 := by kernel_rfl
theorem z9 : zeroOf? Tryz.prog 9 = some (.string ByteArray.empty) := by kernel_rfl
theorem by9 : bytesOf? Tryz.prog 9 = some 16 := by kernel_rfl
theorem ag20 : aggT Tryz.prog 20 = some false := by kernel_rfl
theorem sz20 : sizeOf? Tryz.prog 20 = some 1 := by kernel_rfl
theorem z20 : zeroOf? Tryz.prog 20 = some (.nilIface) := by kernel_rfl
theorem ag21 : aggT Tryz.prog 21 = some false := by kernel_rfl
theorem sz21 : sizeOf? Tryz.prog 21 = some 1 := by kernel_rfl
theorem z21 : zeroOf? Tryz.prog 21 = some (.int .i32 0) := by kernel_rfl
theorem by21 : bytesOf? Tryz.prog 21 = some 4 := by kernel_rfl
theorem ag22 : aggT Tryz.prog 22 = some false := by kernel_rfl
theorem sz22 : sizeOf? Tryz.prog 22 = some 1 := by kernel_rfl
theorem z22 : zeroOf? Tryz.prog 22 = some (.slice none 0 0) := by kernel_rfl
theorem by22 : bytesOf? Tryz.prog 22 = some 24 := by kernel_rfl
theorem ag23 : aggT Tryz.prog 23 = some false := by kernel_rfl
theorem sz23 : sizeOf? Tryz.prog 23 = some 1 := by kernel_rfl
theorem z23 : zeroOf? Tryz.prog 23 = some (.slice none 0 0) := by kernel_rfl
theorem by23 : bytesOf? Tryz.prog 23 = some 24 := by kernel_rfl
theorem ag25 : aggT Tryz.prog 25 = some false := by kernel_rfl
theorem sz25 : sizeOf? Tryz.prog 25 = some 1 := by kernel_rfl
theorem z25 : zeroOf? Tryz.prog 25 = some (.slice none 0 0) := by kernel_rfl
theorem by25 : bytesOf? Tryz.prog 25 = some 24 := by kernel_rfl
theorem ag26 : aggT Tryz.prog 26 = some false := by kernel_rfl
theorem sz26 : sizeOf? Tryz.prog 26 = some 1 := by kernel_rfl
theorem z26 : zeroOf? Tryz.prog 26 = some (.slice none 0 0) := by kernel_rfl
theorem by26 : bytesOf? Tryz.prog 26 = some 24 := by kernel_rfl
theorem ag28 : aggT Tryz.prog 28 = some true := by kernel_rfl
theorem sz28 : sizeOf? Tryz.prog 28 = some 6 := by kernel_rfl
theorem z28 : zeroOf? Tryz.prog 28 = some (.agg #[.int .i64 0, .bool false, .int .i64 0, .string ByteArray.empty, .slice none 0 0, .slice none 0 0]) := by kernel_rfl
theorem by28 : bytesOf? Tryz.prog 28 = some 88 := by kernel_rfl
theorem ag31 : aggT Tryz.prog 31 = some false := by kernel_rfl
theorem sz31 : sizeOf? Tryz.prog 31 = some 1 := by kernel_rfl
theorem z31 : zeroOf? Tryz.prog 31 = some (.slice none 0 0) := by kernel_rfl
theorem by31 : bytesOf? Tryz.prog 31 = some 24 := by kernel_rfl
theorem ag33 : aggT Tryz.prog 33 = some true := by kernel_rfl
theorem sz33 : sizeOf? Tryz.prog 33 = some 6 := by kernel_rfl
theorem z33 : zeroOf? Tryz.prog 33 = some (.agg #[.int .i64 0, .bool false, .int .i64 0, .string ByteArray.empty, .slice none 0 0, .slice none 0 0]) := by kernel_rfl
theorem by33 : bytesOf? Tryz.prog 33 = some 88 := by kernel_rfl
theorem ag34 : aggT Tryz.prog 34 = some false := by kernel_rfl
theorem sz34 : sizeOf? Tryz.prog 34 = some 1 := by kernel_rfl
theorem z34 : zeroOf? Tryz.prog 34 = some (.int .i64 0) := by kernel_rfl
theorem by34 : bytesOf? Tryz.prog 34 = some 8 := by kernel_rfl
theorem z37 : zeroOf? Tryz.prog 37 = some (.nilFunc) := by kernel_rfl
theorem ag42 : aggT Tryz.prog 42 = some false := by kernel_rfl
theorem sz42 : sizeOf? Tryz.prog 42 = some 1 := by kernel_rfl
theorem z42 : zeroOf? Tryz.prog 42 = some (.nilFunc) := by kernel_rfl
theorem z46 : zeroOf? Tryz.prog 46 = some (.agg #[.int .i64 0, .string ByteArray.empty, .int .i64 0, .int .i64 0, .int .i64 0]) := by kernel_rfl
theorem z51 : zeroOf? Tryz.prog 51 = some (.nilFunc) := by kernel_rfl
theorem z53 : zeroOf? Tryz.prog 53 = some (.agg #[.int .u8 0, .int .i64 0, .string ByteArray.empty, .slice none 0 0, .slice none 0 0]) := by kernel_rfl
theorem ag54 : aggT Tryz.prog 54 = some true := by kernel_rfl
theorem sz54 : sizeOf? Tryz.prog 54 = some 5 := by kernel_rfl
theorem z54 : zeroOf? Tryz.prog 54 = some (.agg #[.int .u8 0, .int .i64 0, .string ByteArray.empty, .slice none 0 0, .slice none 0 0]) := by kernel_rfl
theorem by54 : bytesOf? Tryz.prog 54 = some 80 := by kernel_rfl
theorem ag60 : aggT Tryz.prog 60 = some false := by kernel_rfl
theorem sz60 : sizeOf? Tryz.prog 60 = some 1 := by kernel_rfl
theorem z60 : zeroOf? Tryz.prog 60 = some (.slice none 0 0) := by kernel_rfl
theorem by60 : bytesOf? Tryz.prog 60 = some 24 := by kernel_rfl
theorem ag62 : aggT Tryz.prog 62 = some true := by kernel_rfl
theorem sz62 : sizeOf? Tryz.prog 62 = some 2 := by kernel_rfl
theorem z62 : zeroOf? Tryz.prog 62 = some (.agg #[.bool false, .slice none 0 0]) := by kernel_rfl
theorem by62 : bytesOf? Tryz.prog 62 = some 32 := by kernel_rfl
theorem ag64 : aggT Tryz.prog 64 = some false := by kernel_rfl
theorem sz64 : sizeOf? Tryz.prog 64 = some 1 := by kernel_rfl
theorem z64 : zeroOf? Tryz.prog 64 = some (.pointer none) := by kernel_rfl
theorem by64 : bytesOf? Tryz.prog 64 = some 8 := by kernel_rfl
theorem ag65 : aggT Tryz.prog 65 = some false := by kernel_rfl
theorem sz65 : sizeOf? Tryz.prog 65 = some 1 := by kernel_rfl
theorem z65 : zeroOf? Tryz.prog 65 = some (.pointer none) := by kernel_rfl
theorem by65 : bytesOf? Tryz.prog 65 = some 8 := by kernel_rfl
theorem ag67 : aggT Tryz.prog 67 = some true := by kernel_rfl
theorem sz67 : sizeOf? Tryz.prog 67 = some 5 := by kernel_rfl
theorem z67 : zeroOf? Tryz.prog 67 = some (.agg #[.int .i64 0, .string ByteArray.empty, .int .i64 0, .int .i64 0, .int .i64 0]) := by kernel_rfl
theorem by67 : bytesOf? Tryz.prog 67 = some 48 := by kernel_rfl
theorem ag69 : aggT Tryz.prog 69 = some true := by kernel_rfl
theorem sz69 : sizeOf? Tryz.prog 69 = some 9 := by kernel_rfl
theorem z69 : zeroOf? Tryz.prog 69 = some (.agg #[.pointer none, .int .i64 0, .string ByteArray.empty, .int .i64 0, .int .i64 0, .int .i64 0, .int .i64 0, .int .i64 0, .int .i64 0]) := by kernel_rfl
theorem by69 : bytesOf? Tryz.prog 69 = some 80 := by kernel_rfl
theorem z75 : zeroOf? Tryz.prog 75 = some (.nilFunc) := by kernel_rfl
theorem z85 : zeroOf? Tryz.prog 85 = some (.agg #[.string ByteArray.empty, .string ByteArray.empty, .string ByteArray.empty]) := by kernel_rfl
theorem ag92 : aggT Tryz.prog 92 = some true := by kernel_rfl
theorem sz92 : sizeOf? Tryz.prog 92 = some 8 := by kernel_rfl
theorem z92 : zeroOf? Tryz.prog 92 = some (.agg #[.string ByteArray.empty, .string ByteArray.empty, .string ByteArray.empty, .string ByteArray.empty, .string ByteArray.empty, .string ByteArray.empty, .string ByteArray.empty, .string ByteArray.empty]) := by kernel_rfl
theorem by92 : bytesOf? Tryz.prog 92 = some 128 := by kernel_rfl
theorem ag94 : aggT Tryz.prog 94 = some true := by kernel_rfl
theorem sz94 : sizeOf? Tryz.prog 94 = some 2 := by kernel_rfl
theorem z94 : zeroOf? Tryz.prog 94 = some (.agg #[.string ByteArray.empty, .int .i64 0]) := by kernel_rfl
theorem by94 : bytesOf? Tryz.prog 94 = some 24 := by kernel_rfl
theorem ag114 : aggT Tryz.prog 114 = some false := by kernel_rfl
theorem sz114 : sizeOf? Tryz.prog 114 = some 1 := by kernel_rfl
theorem z114 : zeroOf? Tryz.prog 114 = some (.nilFunc) := by kernel_rfl
theorem ag116 : aggT Tryz.prog 116 = some false := by kernel_rfl
theorem sz116 : sizeOf? Tryz.prog 116 = some 1 := by kernel_rfl
theorem z116 : zeroOf? Tryz.prog 116 = some (.pointer none) := by kernel_rfl
theorem by116 : bytesOf? Tryz.prog 116 = some 8 := by kernel_rfl
theorem ag117 : aggT Tryz.prog 117 = some false := by kernel_rfl
theorem sz117 : sizeOf? Tryz.prog 117 = some 1 := by kernel_rfl
theorem z117 : zeroOf? Tryz.prog 117 = some (.nilFunc) := by kernel_rfl
theorem ag118 : aggT Tryz.prog 118 = some false := by kernel_rfl
theorem sz118 : sizeOf? Tryz.prog 118 = some 1 := by kernel_rfl
theorem z118 : zeroOf? Tryz.prog 118 = some (.pointer none) := by kernel_rfl
theorem by118 : bytesOf? Tryz.prog 118 = some 8 := by kernel_rfl
theorem ag119 : aggT Tryz.prog 119 = some false := by kernel_rfl
theorem sz119 : sizeOf? Tryz.prog 119 = some 1 := by kernel_rfl
theorem z119 : zeroOf? Tryz.prog 119 = some (.pointer none) := by kernel_rfl
theorem by119 : bytesOf? Tryz.prog 119 = some 8 := by kernel_rfl
theorem ag122 : aggT Tryz.prog 122 = some true := by kernel_rfl
theorem sz122 : sizeOf? Tryz.prog 122 = some 5 := by kernel_rfl
theorem z122 : zeroOf? Tryz.prog 122 = some (.agg #[.int .i64 0, .int .i64 0, .int .i64 0, .int .i64 0, .int .i64 0]) := by kernel_rfl
theorem by122 : bytesOf? Tryz.prog 122 = some 40 := by kernel_rfl
theorem z127 : zeroOf? Tryz.prog 127 = some (.nilFunc) := by kernel_rfl
theorem ag128 : aggT Tryz.prog 128 = some false := by kernel_rfl
theorem sz128 : sizeOf? Tryz.prog 128 = some 1 := by kernel_rfl
theorem z128 : zeroOf? Tryz.prog 128 = some (.nilFunc) := by kernel_rfl
theorem ag130 : aggT Tryz.prog 130 = some false := by kernel_rfl
theorem sz130 : sizeOf? Tryz.prog 130 = some 1 := by kernel_rfl
theorem z130 : zeroOf? Tryz.prog 130 = some (.pointer none) := by kernel_rfl
theorem by130 : bytesOf? Tryz.prog 130 = some 8 := by kernel_rfl
theorem ag132 : aggT Tryz.prog 132 = some true := by kernel_rfl
theorem sz132 : sizeOf? Tryz.prog 132 = some 2 := by kernel_rfl
theorem z132 : zeroOf? Tryz.prog 132 = some (.agg #[.pointer none, .slice none 0 0]) := by kernel_rfl
theorem by132 : bytesOf? Tryz.prog 132 = some 32 := by kernel_rfl
theorem ag136 : aggT Tryz.prog 136 = some false := by kernel_rfl
theorem sz136 : sizeOf? Tryz.prog 136 = some 1 := by kernel_rfl
theorem z136 : zeroOf? Tryz.prog 136 = some (.nilIface) := by kernel_rfl
theorem by136 : bytesOf? Tryz.prog 136 = some 16 := by kernel_rfl
theorem z143 : zeroOf? Tryz.prog 143 = some (.nilFunc) := by kernel_rfl
theorem z145 : zeroOf? Tryz.prog 145 = some (.nilFunc) := by kernel_rfl
theorem ag154 : aggT Tryz.prog 154 = some false := by kernel_rfl
theorem sz154 : sizeOf? Tryz.prog 154 = some 1 := by kernel_rfl
theorem z154 : zeroOf? Tryz.prog 154 = some (.pointer none) := by kernel_rfl
theorem by154 : bytesOf? Tryz.prog 154 = some 8 := by kernel_rfl
theorem ag158 : aggT Tryz.prog 158 = some false := by kernel_rfl
theorem sz158 : sizeOf? Tryz.prog 158 = some 1 := by kernel_rfl
theorem z158 : zeroOf? Tryz.prog 158 = some (.int .u64 0) := by kernel_rfl
theorem by158 : bytesOf? Tryz.prog 158 = some 8 := by kernel_rfl
theorem ag167 : aggT Tryz.prog 167 = some false := by kernel_rfl
theorem sz167 : sizeOf? Tryz.prog 167 = some 1 := by kernel_rfl
theorem z167 : zeroOf? Tryz.prog 167 = some (.int .i64 0) := by kernel_rfl
theorem by167 : bytesOf? Tryz.prog 167 = some 8 := by kernel_rfl
theorem ag168 : aggT Tryz.prog 168 = some false := by kernel_rfl
theorem sz168 : sizeOf? Tryz.prog 168 = some 1 := by kernel_rfl
theorem z168 : zeroOf? Tryz.prog 168 = some (.int .u64 0) := by kernel_rfl
theorem by168 : bytesOf? Tryz.prog 168 = some 8 := by kernel_rfl
theorem ag171 : aggT Tryz.prog 171 = some false := by kernel_rfl
theorem sz171 : sizeOf? Tryz.prog 171 = some 1 := by kernel_rfl
theorem z171 : zeroOf? Tryz.prog 171 = some (.pointer none) := by kernel_rfl
theorem by171 : bytesOf? Tryz.prog 171 = some 8 := by kernel_rfl
theorem z173 : zeroOf? Tryz.prog 173 = some (.nilFunc) := by kernel_rfl
theorem z175 : zeroOf? Tryz.prog 175 = some (.nilFunc) := by kernel_rfl
theorem ag178 : aggT Tryz.prog 178 = some true := by kernel_rfl
theorem sz178 : sizeOf? Tryz.prog 178 = some 3 := by kernel_rfl
theorem z178 : zeroOf? Tryz.prog 178 = some (.agg #[.string ByteArray.empty, .string ByteArray.empty, .nilIface]) := by kernel_rfl
theorem by178 : bytesOf? Tryz.prog 178 = some 48 := by kernel_rfl
theorem ag180 : aggT Tryz.prog 180 = some false := by kernel_rfl
theorem sz180 : sizeOf? Tryz.prog 180 = some 1 := by kernel_rfl
theorem z180 : zeroOf? Tryz.prog 180 = some (.pointer none) := by kernel_rfl
theorem by180 : bytesOf? Tryz.prog 180 = some 8 := by kernel_rfl
theorem ag182 : aggT Tryz.prog 182 = some true := by kernel_rfl
theorem sz182 : sizeOf? Tryz.prog 182 = some 1 := by kernel_rfl
theorem z182 : zeroOf? Tryz.prog 182 = some (.agg #[.string ByteArray.empty]) := by kernel_rfl
theorem by182 : bytesOf? Tryz.prog 182 = some 16 := by kernel_rfl
theorem ag184 : aggT Tryz.prog 184 = some true := by kernel_rfl
theorem sz184 : sizeOf? Tryz.prog 184 = some 24 := by kernel_rfl
theorem z184 : zeroOf? Tryz.prog 184 = some (.agg #[.int .u8 0, .int .u8 0, .int .u8 0, .int .u8 0, .int .u8 0, .int .u8 0, .int .u8 0, .int .u8 0, .int .u8 0, .int .u8 0, .int .u8 0, .int .u8 0, .int .u8 0, .int .u8 0, .int .u8 0, .int .u8 0, .int .u8 0, .int .u8 0, .int .u8 0, .int .u8 0, .int .u8 0, .int .u8 0, .int .u8 0, .int .u8 0]) := by kernel_rfl
theorem by184 : bytesOf? Tryz.prog 184 = some 24 := by kernel_rfl
theorem ag191 : aggT Tryz.prog 191 = some true := by kernel_rfl
theorem sz191 : sizeOf? Tryz.prog 191 = some 20 := by kernel_rfl
theorem z191 : zeroOf? Tryz.prog 191 = some (.agg #[.int .u64 0, .int .u64 0, .int .u64 0, .int .u64 0, .int .u64 0, .int .u64 0, .int .u64 0, .int .u64 0, .int .u64 0, .int .u64 0, .int .u64 0, .int .u64 0, .int .u64 0, .int .u64 0, .int .u64 0, .int .u64 0, .int .u64 0, .int .u64 0, .int .u64 0, .int .u64 0]) := by kernel_rfl
theorem by191 : bytesOf? Tryz.prog 191 = some 160 := by kernel_rfl
theorem ag192 : aggT Tryz.prog 192 = some false := by kernel_rfl
theorem sz192 : sizeOf? Tryz.prog 192 = some 1 := by kernel_rfl
theorem z192 : zeroOf? Tryz.prog 192 = some (.int .u32 0) := by kernel_rfl
theorem by192 : bytesOf? Tryz.prog 192 = some 4 := by kernel_rfl
theorem ag196 : aggT Tryz.prog 196 = some true := by kernel_rfl
theorem sz196 : sizeOf? Tryz.prog 196 = some 32 := by kernel_rfl
theorem z196 : zeroOf? Tryz.prog 196 = some (.agg #[.int .u8 0, .int .u8 0, .int .u8 0, .int .u8 0, .int .u8 0, .int .u8 0, .int .u8 0, .int .u8 0, .int .u8 0, .int .u8 0, .int .u8 0, .int .u8 0, .int .u8 0, .int .u8 0, .int .u8 0, .int .u8 0, .int .u8 0, .int .u8 0, .int .u8 0, .int .u8 0, .int .u8 0, .int .u8 0, .int .u8 0, .int .u8 0, .int .u8 0, .int .u8 0, .int .u8 0, .int .u8 0, .int .u8 0, .int .u8 0, .int .u8 0, .int .u8 0]) := by kernel_rfl
theorem by196 : bytesOf? Tryz.prog 196 = some 32 := by kernel_rfl
theorem ag197 : aggT Tryz.prog 197 = some true := by kernel_rfl
theorem sz197 : sizeOf? Tryz.prog 197 = some 64 := by kernel_rfl
theorem z197 : zeroOf? Tryz.prog 197 = some (.agg #[.int .u8 0, .int .u8 0, .int .u8 0, .int .u8 0, .int .u8 0, .int .u8 0, .int .u8 0, .int .u8 0, .int .u8 0, .int .u8 0, .int .u8 0, .int .u8 0, .int .u8 0, .int .u8 0, .int .u8 0, .int .u8 0, .int .u8 0, .int .u8 0, .int .u8 0, .int .u8 0, .int .u8 0, .int .u8 0, .int .u8 0, .int .u8 0, .int .u8 0, .int .u8 0, .int .u8 0, .int .u8 0, .int .u8 0, .int .u8 0, .int .u8 0, .int .u8 0, .int .u8 0, .int .u8 0, .int .u8 0, .int .u8 0, .int .u8 0, .int .u8 0, .int .u8 0, .int .u8 0, .int .u8 0, .int .u8 0, .int .u8 0, .int .u8 0, .int .u8 0, .int .u8 0, .int .u8 0, .int .u8 0, .int .u8 0, .int .u8 0, .int .u8 0, .int .u8 0, .int .u8 0, .int .u8 0, .int .u8 0, .int .u8 0, .int .u8 0, .int .u8 0, .int .u8 0, .int .u8 0, .int .u8 0, .int .u8 0, .int .u8 0, .int .u8 0]) := by kernel_rfl
theorem by197 : bytesOf? Tryz.prog 197 = some 64 := by kernel_rfl
theorem rdo2 {cs : List PV} {off : Nat} : readCells Tryz.prog 2 cs off = cs[off]? := rd_one ag2
theorem rdo3 {cs : List PV} {off : Nat} : readCells Tryz.prog 3 cs off = cs[off]? := rd_one ag3
theorem rdo4 {cs : List PV} {off : Nat} : readCells Tryz.prog 4 cs off = cs[off]? := rd_one ag4
theorem rdo5 {cs : List PV} {off : Nat} : readCells Tryz.prog 5 cs off = cs[off]? := rd_one ag5
theorem rdo9 {cs : List PV} {off : Nat} : readCells Tryz.prog 9 cs off = cs[off]? := rd_one ag9
theorem mki9 {K : PS -> Prop} : stepN dr Tryz.prog ⟨d, .makeInterface 9 x, ty, pos, af, g⟩ st id tk K = bindO (st.ev x) fun p => K (st.put d (.iface 9 p)) := s_makeIface Tryz.underlying9 rfl
theorem rng9 {K : PS -> Prop} : stepN dr Tryz.prog ⟨d, .range 9 x, ty, pos, af, g⟩ st id tk K = bindO (st.ev x) (rngP id d st K) := s_range Tryz.underlying9
theorem lns9 {K : PV -> Prop} : lenK Tryz.prog st 9 x K = bindO (st.ev x) (lenS K) := len_string Tryz.underlying9
theorem ixs9 {K : PV -> Prop} : indexK Tryz.prog st 9 x y K = bindO (st.ev x) fun p => bindO (st.ev y) fun q => intK q fun i => ixS i K p := ix_string Tryz.underlying9
theorem sls9 {lo hi : Option Operand} {K : PV -> Prop} : sliceK Tryz.prog st 9 x lo hi K = bindO (st.ev x) (slcS st lo hi K) := slc_string Tryz.underlying9
theorem rdo20 {cs : List PV} {off : Nat} : readCells Tryz.prog 20 cs off = cs[off]? := rd_one ag20
theorem ifx20 : (∃ ms, Tryz.prog.underlying 20 = some (.interface ms)) = True := eq_true ⟨_, Tryz.underlying20⟩
theorem rdo21 {cs : List PV} {off : Nat} : readCells Tryz.prog 21 cs off = cs[off]? := rd_one ag21
theorem rdo22 {cs : List PV} {off : Nat} : readCells Tryz.prog 22 cs off = cs[off]? := rd_one ag22
theorem lns22 {K : PV -> Prop} : lenK Tryz.prog st 22 x K = bindO (st.ev x) (lenP K) := len_slice Tryz.underlying22
theorem ixs22 {K : PV -> Prop} : indexAddrK Tryz.prog st 22 x y K = bindO (st.ev x) fun p => bindO (st.ev y) fun q => intK q fun i => ixP 5 i K p := ix_slice Tryz.underlying22 sz54
theorem sls22 {lo hi : Option Operand} {K : PV -> Prop} : sliceK Tryz.prog st 22 x lo hi K = bindO (st.ev x) (slcP 5 st lo hi K) := slc_slice Tryz.underlying22 sz54
theorem app22 {tk : Nat} {K : Delta -> Prop} : appendK Tryz.prog st tk ⟨.builtin .append, #[x, y], #[22, 22]⟩ K = bindO (st.ev x) fun d => bindO (st.ev y) fun s => bindO (srcXs st 5 s) fun ys0 => bindO (fzLL ys0) fun ys => (∀ y ∈ ys, y.length = 5) /\ appT 54 5 80 st tk K d ys :=
 append_t Tryz.underlying22 sz54 by54 z54 rfl (by decide)
theorem bs22 {id tk n : Nat} {K : PS -> Prop} {l : List (Nat × Operand)} :
  stepN dr Tryz.prog ⟨d, .buildSlice 22 n l.toArray, ty, pos, af, g⟩ st id tk K = bindO (evParts st l) fun ps => bindO (valsOf ps 0) fun xs => (∀ x ∈ xs, x.length = 5) /\ xs.length = n /\ n * 5 <= 16777216 /\ K (PS.put { st with toks := upd st.toks tk ⟨54, 5, n⟩ } d (.row tk xs)) :=
 s_buildSlice Tryz.underlying22 sz54 z54 (by decide) rfl
theorem mks22 {K : PS -> Prop} {l c : Operand} : stepN dr Tryz.prog ⟨d, .makeSlice 22 l c, ty, pos, af, g⟩ st id tk K = bindO (st.ev l) fun p => bindO (st.ev c) fun q => intK p fun n => intK q fun m => n = m /\ 0 <= n /\ n <= 9223372036854775807 /\ 80 * n <= 281474976710656 /\
  K (PS.put { st with heap := (id, .box 54 ((List.range (n.toNat * 5)).map fun i => [.val (.int .u8 0), .val (.int .i64 0), .val (.string ByteArray.empty), .val (.slice none 0 0), .val (.slice none 0 0)].getD (i % 5) (.val .nilIface))) :: st.heap } d (.ms id 0 n.toNat n.toNat)) :=
 s_makeSlice Tryz.underlying22 sz54 by54 z54 rfl rfl (by decide) rfl
theorem rdo23 {cs : List PV} {off : Nat} : readCells Tryz.prog 23 cs off = cs[off]? := rd_one ag23
theorem lns23 {K : PV -> Prop} : lenK Tryz.prog st 23 x K = bindO (st.ev x) (lenP K) := len_slice Tryz.underlying23
theorem ixs23 {K : PV -> Prop} : indexAddrK Tryz.prog st 23 x y K = bindO (st.ev x) fun p => bindO (st.ev y) fun q => intK q fun i => ixP 1 i K p := ix_slice Tryz.underlying23 sz5
theorem sls23 {lo hi : Option Operand} {K : PV -> Prop} : sliceK Tryz.prog st 23 x lo hi K = bindO (st.ev x) (slcP 1 st lo hi K) := slc_slice Tryz.underlying23 sz5
theorem app23 {tk : Nat} {K : Delta -> Prop} : appendK Tryz.prog st tk ⟨.builtin .append, #[x, y], #[23, 23]⟩ K = bindO (st.ev x) fun d => bindO (st.ev y) fun s => bindO (srcXs st 1 s) fun ys0 => bindO (fzLL ys0) fun ys => (∀ y ∈ ys, y.length = 1) /\ appT 5 1 1 st tk K d ys :=
 append_t Tryz.underlying23 sz5 by5 z5 rfl (by decide)
theorem bs23 {id tk n : Nat} {K : PS -> Prop} {l : List (Nat × Operand)} :
  stepN dr Tryz.prog ⟨d, .buildSlice 23 n l.toArray, ty, pos, af, g⟩ st id tk K = bindO (evParts st l) fun ps => bindO (valsOf ps 0) fun xs => (∀ x ∈ xs, x.length = 1) /\ xs.length = n /\ n * 1 <= 16777216 /\ K (PS.put { st with toks := upd st.toks tk ⟨5, 1, n⟩ } d (.row tk xs)) :=
 s_buildSlice Tryz.underlying23 sz5 z5 (by decide) rfl
theorem isb23 : isBytes Tryz.prog 23 = True := eq_true ⟨5, Tryz.underlying23, Tryz.underlying5⟩
theorem aps23 {tk : Nat} {K : Delta -> Prop} : appendK Tryz.prog st tk ⟨.builtin .append, #[x, y], #[23, 9]⟩ K = bindO (st.ev x) fun d => bindO (st.ev y) fun s => appS 5 1 st tk K d s :=
 append_s Tryz.underlying23 Tryz.underlying9 sz5 by5 z5
theorem cvr23 {k : Nat} {xs : List Int} {K : PV -> Prop} : convK Tryz.prog 23 9 (rowC k xs) K = K (.val (.string (strOfNums xs))) := conv_rowC (by rw [Tryz.underlying23]; rfl) ⟨5, Tryz.underlying23, Tryz.underlying5⟩ Tryz.underlying9
theorem mks23 {K : PS -> Prop} {l c : Operand} : stepN dr Tryz.prog ⟨d, .makeSlice 23 l c, ty, pos, af, g⟩ st id tk K = bindO (st.ev l) fun p => bindO (st.ev c) fun q => intK p fun n => intK q fun m => n = m /\ 0 <= n /\ n <= 9223372036854775807 /\ 1 * n <= 281474976710656 /\
  K (PS.put { st with heap := (id, .box 5 ((List.range (n.toNat * 1)).map fun i => [.val (.int .u8 0)].getD (i % 1) (.val .nilIface))) :: st.heap } d (.ms id 0 n.toNat n.toNat)) :=
 s_makeSlice Tryz.underlying23 sz5 by5 z5 rfl rfl (by decide) rfl
theorem rdo25 {cs : List PV} {off : Nat} : readCells Tryz.prog 25 cs off = cs[off]? := rd_one ag25
theorem lns25 {K : PV -> Prop} : lenK Tryz.prog st 25 x K = bindO (st.ev x) (lenP K) := len_slice Tryz.underlying25
theorem ixs25 {K : PV -> Prop} : indexAddrK Tryz.prog st 25 x y K = bindO (st.ev x) fun p => bindO (st.ev y) fun q => intK q fun i => ixP 6 i K p := ix_slice Tryz.underlying25 sz28
theorem sls25 {lo hi : Option Operand} {K : PV -> Prop} : sliceK Tryz.prog st 25 x lo hi K = bindO (st.ev x) (slcP 6 st lo hi K) := slc_slice Tryz.underlying25 sz28
theorem app25 {tk : Nat} {K : Delta -> Prop} : appendK Tryz.prog st tk ⟨.builtin .append, #[x, y], #[25, 25]⟩ K = bindO (st.ev x) fun d => bindO (st.ev y) fun s => bindO (srcXs st 6 s) fun ys0 => bindO (fzLL ys0) fun ys => (∀ y ∈ ys, y.length = 6) /\ appT 28 6 88 st tk K d ys :=
 append_t Tryz.underlying25 sz28 by28 z28 rfl (by decide)
theorem bs25 {id tk n : Nat} {K : PS -> Prop} {l : List (Nat × Operand)} :
  stepN dr Tryz.prog ⟨d, .buildSlice 25 n l.toArray, ty, pos, af, g⟩ st id tk K = bindO (evParts st l) fun ps => bindO (valsOf ps 0) fun xs => (∀ x ∈ xs, x.length = 6) /\ xs.length = n /\ n * 6 <= 16777216 /\ K (PS.put { st with toks := upd st.toks tk ⟨28, 6, n⟩ } d (.row tk xs)) :=
 s_buildSlice Tryz.underlying25 sz28 z28 (by decide) rfl
theorem mks25 {K : PS -> Prop} {l c : Operand} : stepN dr Tryz.prog ⟨d, .makeSlice 25 l c, ty, pos, af, g⟩ st id tk K = bindO (st.ev l) fun p => bindO (st.ev c) fun q => intK p fun n => intK q fun m => n = m /\ 0 <= n /\ n <= 9223372036854775807 /\ 88 * n <= 281474976710656 /\
  K (PS.put { st with heap := (id, .box 28 ((List.range (n.toNat * 6)).map fun i => [.val (.int .i64 0), .val (.bool false), .val (.int .i64 0), .val (.string ByteArray.empty), .val (.slice none 0 0), .val (.slice none 0 0)].getD (i % 6) (.val .nilIface))) :: st.heap } d (.ms id 0 n.toNat n.toNat)) :=
 s_makeSlice Tryz.underlying25 sz28 by28 z28 rfl rfl (by decide) rfl
theorem rdo26 {cs : List PV} {off : Nat} : readCells Tryz.prog 26 cs off = cs[off]? := rd_one ag26
theorem alc26 {K : PS -> Prop} : stepN dr Tryz.prog ⟨d, .alloc 26, ty, pos, af, g⟩ st id tk K = K (PS.put { st with heap := (id, .box 26 [.val (.slice none 0 0)]) :: st.heap } d (.ptr id 0)) := s_allocC z26 rfl rfl
theorem lns26 {K : PV -> Prop} : lenK Tryz.prog st 26 x K = bindO (st.ev x) (lenP K) := len_slice Tryz.underlying26
theorem ixs26 {K : PV -> Prop} : indexAddrK Tryz.prog st 26 x y K = bindO (st.ev x) fun p => bindO (st.ev y) fun q => intK q fun i => ixP 1 i K p := ix_slice Tryz.underlying26 sz9
theorem sls26 {lo hi : Option Operand} {K : PV -> Prop} : sliceK Tryz.prog st 26 x lo hi K = bindO (st.ev x) (slcP 1 st lo hi K) := slc_slice Tryz.underlying26 sz9
theorem app26 {tk : Nat} {K : Delta -> Prop} : appendK Tryz.prog st tk ⟨.builtin .append, #[x, y], #[26, 26]⟩ K = bindO (st.ev x) fun d => bindO (st.ev y) fun s => bindO (srcXs st 1 s) fun ys0 => bindO (fzLL ys0) fun ys => (∀ y ∈ ys, y.length = 1) /\ appT 9 1 16 st tk K d ys :=
 append_t Tryz.underlying26 sz9 by9 z9 rfl (by decide)
theorem bs26 {id tk n : Nat} {K : PS -> Prop} {l : List (Nat × Operand)} :
  stepN dr Tryz.prog ⟨d, .buildSlice 26 n l.toArray, ty, pos, af, g⟩ st id tk K = bindO (evParts st l) fun ps => bindO (valsOf ps 0) fun xs => (∀ x ∈ xs, x.length = 1) /\ xs.length = n /\ n * 1 <= 16777216 /\ K (PS.put { st with toks := upd st.toks tk ⟨9, 1, n⟩ } d (.row tk xs)) :=
 s_buildSlice Tryz.underlying26 sz9 z9 (by decide) rfl
theorem mks26 {K : PS -> Prop} {l c : Operand} : stepN dr Tryz.prog ⟨d, .makeSlice 26 l c, ty, pos, af, g⟩ st id tk K = bindO (st.ev l) fun p => bindO (st.ev c) fun q => intK p fun n => intK q fun m => n = m /\ 0 <= n /\ n <= 9223372036854775807 /\ 16 * n <= 281474976710656 /\
  K (PS.put { st with heap := (id, .box 9 ((List.range (n.toNat * 1)).map fun i => [.val (.string ByteArray.empty)].getD (i % 1) (.val .nilIface))) :: st.heap } d (.ms id 0 n.toNat n.toNat)) :=
 s_makeSlice Tryz.underlying26 sz9 by9 z9 rfl rfl (by decide) rfl
theorem rda28 {cs : List PV} {off : Nat} : readCells Tryz.prog 28 cs off = if off + 6 <= cs.length then some (.agg ((cs.drop off).take 6)) else none := rd_agg ag28 sz28
theorem alc28 {K : PS -> Prop} : stepN dr Tryz.prog ⟨d, .alloc 28, ty, pos, af, g⟩ st id tk K = K (PS.put { st with heap := (id, .box 28 [.val (.int .i64 0), .val (.bool false), .val (.int .i64 0), .val (.string ByteArray.empty), .val (.slice none 0 0), .val (.slice none 0 0)]) :: st.heap } d (.ptr id 0)) := s_allocC z28 rfl rfl
theorem fa28_0 {K : PV -> Prop} : fieldAddrK Tryz.prog st 28 x 0 K = bindO (st.ev x) (fldP 0 K) :=
 fld_ (P := Tryz.prog) (st := st) (x := x) (K := K) (f := 0) Tryz.underlying28 rfl sz3 (by decide)
theorem fi28_0 {K : PV -> Prop} : fieldK Tryz.prog st 28 x 0 K = bindO (st.ev x) (fieldP Tryz.prog 3 0 K) :=
 field_ (P := Tryz.prog) (st := st) (x := x) (K := K) (f := 0) Tryz.underlying28 rfl
theorem fa28_1 {K : PV -> Prop} : fieldAddrK Tryz.prog st 28 x 1 K = bindO (st.ev x) (fldP 1 K) :=
 fld_ (P := Tryz.prog) (st := st) (x := x) (K := K) (f := 1) Tryz.underlying28 rfl sz4 (by decide)
theorem fi28_1 {K : PV -> Prop} : fieldK Tryz.prog st 28 x 1 K = bindO (st.ev x) (fieldP Tryz.prog 4 1 K) :=
 field_ (P := Tryz.prog) (st := st) (x := x) (K := K) (f := 1) Tryz.underlying28 rfl
theorem fa28_2 {K : PV -> Prop} : fieldAddrK Tryz.prog st 28 x 2 K = bindO (st.ev x) (fldP 2 K) :=
 fld_ (P := Tryz.prog) (st := st) (x := x) (K := K) (f := 2) Tryz.underlying28 rfl sz2 (by decide)
theorem fi28_2 {K : PV -> Prop} : fieldK Tryz.prog st 28 x 2 K = bindO (st.ev x) (fieldP Tryz.prog 2 2 K) :=
 field_ (P := Tryz.prog) (st := st) (x := x) (K := K) (f := 2) Tryz.underlying28 rfl
theorem fa28_3 {K : PV -> Prop} : fieldAddrK Tryz.prog st 28 x 3 K = bindO (st.ev x) (fldP 3 K) :=
 fld_ (P := Tryz.prog) (st := st) (x := x) (K := K) (f := 3) Tryz.underlying28 rfl sz9 (by decide)
theorem fi28_3 {K : PV -> Prop} : fieldK Tryz.prog st 28 x 3 K = bindO (st.ev x) (fieldP Tryz.prog 9 3 K) :=
 field_ (P := Tryz.prog) (st := st) (x := x) (K := K) (f := 3) Tryz.underlying28 rfl
theorem fa28_4 {K : PV -> Prop} : fieldAddrK Tryz.prog st 28 x 4 K = bindO (st.ev x) (fldP 4 K) :=
 fld_ (P := Tryz.prog) (st := st) (x := x) (K := K) (f := 4) Tryz.underlying28 rfl sz25 (by decide)
theorem fi28_4 {K : PV -> Prop} : fieldK Tryz.prog st 28 x 4 K = bindO (st.ev x) (fieldP Tryz.prog 25 4 K) :=
 field_ (P := Tryz.prog) (st := st) (x := x) (K := K) (f := 4) Tryz.underlying28 rfl
theorem fa28_5 {K : PV -> Prop} : fieldAddrK Tryz.prog st 28 x 5 K = bindO (st.ev x) (fldP 5 K) :=
 fld_ (P := Tryz.prog) (st := st) (x := x) (K := K) (f := 5) Tryz.underlying28 rfl sz26 (by decide)
theorem fi28_5 {K : PV -> Prop} : fieldK Tryz.prog st 28 x 5 K = bindO (st.ev x) (fieldP Tryz.prog 26 5 K) :=
 field_ (P := Tryz.prog) (st := st) (x := x) (K := K) (f := 5) Tryz.underlying28 rfl
theorem bld28 {l : List (Nat × Operand)} {K : PV -> Prop} : buildK Tryz.prog st 28 l K = bindO (evParts st l) fun ps => (ps.all fun e => match e.2 with | .tup _ => false | _ => true) = true /\ bindO (fillP (fun i => [(0, 1), (1, 1), (2, 1), (3, 1), (4, 1), (5, 1)][i]?) [.val (.int .i64 0), .val (.bool false), .val (.int .i64 0), .val (.string ByteArray.empty), .val (.slice none 0 0), .val (.slice none 0 0)] ps) fun cs => K (.agg cs) :=
 buildC Tryz.underlying28 z28 (by kernel_rfl) rfl rfl
theorem rdo31 {cs : List PV} {off : Nat} : readCells Tryz.prog 31 cs off = cs[off]? := rd_one ag31
theorem lns31 {K : PV -> Prop} : lenK Tryz.prog st 31 x K = bindO (st.ev x) (lenP K) := len_slice Tryz.underlying31
theorem ixs31 {K : PV -> Prop} : indexAddrK Tryz.prog st 31 x y K = bindO (st.ev x) fun p => bindO (st.ev y) fun q => intK q fun i => ixP 6 i K p := ix_slice Tryz.underlying31 sz33
theorem sls31 {lo hi : Option Operand} {K : PV -> Prop} : sliceK Tryz.prog st 31 x lo hi K = bindO (st.ev x) (slcP 6 st lo hi K) := slc_slice Tryz.underlying31 sz33
theorem app31 {tk : Nat} {K : Delta -> Prop} : appendK Tryz.prog st tk ⟨.builtin .append, #[x, y], #[31, 31]⟩ K = bindO (st.ev x) fun d => bindO (st.ev y) fun s => bindO (srcXs st 6 s) fun ys0 => bindO (fzLL ys0) fun ys => (∀ y ∈ ys, y.length = 6) /\ appT 33 6 88 st tk K d ys :=
 append_t Tryz.underlying31 sz33 by33 z33 rfl (by decide)
theorem bs31 {id tk n : Nat} {K : PS -> Prop} {l : List (Nat × Operand)} :
  stepN dr Tryz.prog ⟨d, .buildSlice 31 n l.toArray, ty, pos, af, g⟩ st id tk K = bindO (evParts st l) fun ps => bindO (valsOf ps 0) fun xs => (∀ x ∈ xs, x.length = 6) /\ xs.length = n /\ n * 6 <= 16777216 /\ K (PS.put { st with toks := upd st.toks tk ⟨33, 6, n⟩ } d (.row tk xs)) :=
 s_buildSlice Tryz.underlying31 sz33 z33 (by decide) rfl
theorem mks31 {K : PS -> Prop} {l c : Operand} : stepN dr Tryz.prog ⟨d, .makeSlice 31 l c, ty, pos, af, g⟩ st id tk K = bindO (st.ev l) fun p => bindO (st.ev c) fun q => intK p fun n => intK q fun m => n = m /\ 0 <= n /\ n <= 9223372036854775807 /\ 88 * n <= 281474976710656 /\
  K (PS.put { st with heap := (id, .box 33 ((List.range (n.toNat * 6)).map fun i => [.val (.int .i64 0), .val (.bool false), .val (.int .i64 0), .val (.string ByteArray.empty), .val (.slice none 0 0), .val (.slice none 0 0)].getD (i % 6) (.val .nilIface))) :: st.heap } d (.ms id 0 n.toNat n.toNat)) :=
 s_makeSlice Tryz.underlying31 sz33 by33 z33 rfl rfl (by decide) rfl
theorem rda33 {cs : List PV} {off : Nat} : readCells Tryz.prog 33 cs off = if off + 6 <= cs.length then some (.agg ((cs.drop off).take 6)) else none := rd_agg ag33 sz33
theorem alc33 {K : PS -> Prop} : stepN dr Tryz.prog ⟨d, .alloc 33, ty, pos, af, g⟩ st id tk K = K (PS.put { st with heap := (id, .box 33 [.val (.int .i64 0), .val (.bool false), .val (.int .i64 0), .val (.string ByteArray.empty), .val (.slice none 0 0), .val (.slice none 0 0)]) :: st.heap } d (.ptr id 0)) := s_allocC z33 rfl rfl
theorem fa33_0 {K : PV -> Prop} : fieldAddrK Tryz.prog st 33 x 0 K = bindO (st.ev x) (fldP 0 K) :=
 fld_ (P := Tryz.prog) (st := st) (x := x) (K := K) (f := 0) Tryz.underlying33 rfl sz3 (by decide)
theorem fi33_0 {K : PV -> Prop} : fieldK Tryz.prog st 33 x 0 K = bindO (st.ev x) (fieldP Tryz.prog 3 0 K) :=
 field_ (P := Tryz.prog) (st := st) (x := x) (K := K) (f := 0) Tryz.underlying33 rfl
theorem fa33_1 {K : PV -> Prop} : fieldAddrK Tryz.prog st 33 x 1 K = bindO (st.ev x) (fldP 1 K) :=
 fld_ (P := Tryz.prog) (st := st) (x := x) (K := K) (f := 1) Tryz.underlying33 rfl sz4 (by decide)
theorem fi33_1 {K : PV -> Prop} : fieldK Tryz.prog st 33 x 1 K = bindO (st.ev x) (fieldP Tryz.prog 4 1 K) :=
 field_ (P := Tryz.prog) (st := st) (x := x) (K := K) (f := 1) Tryz.underlying33 rfl
theorem fa33_2 {K : PV -> Prop} : fieldAddrK Tryz.prog st 33 x 2 K = bindO (st.ev x) (fldP 2 K) :=
 fld_ (P := Tryz.prog) (st := st) (x := x) (K := K) (f := 2) Tryz.underlying33 rfl sz2 (by decide)
theorem fi33_2 {K : PV -> Prop} : fieldK Tryz.prog st 33 x 2 K = bindO (st.ev x) (fieldP Tryz.prog 2 2 K) :=
 field_ (P := Tryz.prog) (st := st) (x := x) (K := K) (f := 2) Tryz.underlying33 rfl
theorem fa33_3 {K : PV -> Prop} : fieldAddrK Tryz.prog st 33 x 3 K = bindO (st.ev x) (fldP 3 K) :=
 fld_ (P := Tryz.prog) (st := st) (x := x) (K := K) (f := 3) Tryz.underlying33 rfl sz9 (by decide)
theorem fi33_3 {K : PV -> Prop} : fieldK Tryz.prog st 33 x 3 K = bindO (st.ev x) (fieldP Tryz.prog 9 3 K) :=
 field_ (P := Tryz.prog) (st := st) (x := x) (K := K) (f := 3) Tryz.underlying33 rfl
theorem fa33_4 {K : PV -> Prop} : fieldAddrK Tryz.prog st 33 x 4 K = bindO (st.ev x) (fldP 4 K) :=
 fld_ (P := Tryz.prog) (st := st) (x := x) (K := K) (f := 4) Tryz.underlying33 rfl sz31 (by decide)
theorem fi33_4 {K : PV -> Prop} : fieldK Tryz.prog st 33 x 4 K = bindO (st.ev x) (fieldP Tryz.prog 31 4 K) :=
 field_ (P := Tryz.prog) (st := st) (x := x) (K := K) (f := 4) Tryz.underlying33 rfl
theorem fa33_5 {K : PV -> Prop} : fieldAddrK Tryz.prog st 33 x 5 K = bindO (st.ev x) (fldP 5 K) :=
 fld_ (P := Tryz.prog) (st := st) (x := x) (K := K) (f := 5) Tryz.underlying33 rfl sz26 (by decide)
theorem fi33_5 {K : PV -> Prop} : fieldK Tryz.prog st 33 x 5 K = bindO (st.ev x) (fieldP Tryz.prog 26 5 K) :=
 field_ (P := Tryz.prog) (st := st) (x := x) (K := K) (f := 5) Tryz.underlying33 rfl
theorem bld33 {l : List (Nat × Operand)} {K : PV -> Prop} : buildK Tryz.prog st 33 l K = bindO (evParts st l) fun ps => (ps.all fun e => match e.2 with | .tup _ => false | _ => true) = true /\ bindO (fillP (fun i => [(0, 1), (1, 1), (2, 1), (3, 1), (4, 1), (5, 1)][i]?) [.val (.int .i64 0), .val (.bool false), .val (.int .i64 0), .val (.string ByteArray.empty), .val (.slice none 0 0), .val (.slice none 0 0)] ps) fun cs => K (.agg cs) :=
 buildC Tryz.underlying33 z33 (by kernel_rfl) rfl rfl
theorem rdo34 {cs : List PV} {off : Nat} : readCells Tryz.prog 34 cs off = cs[off]? := rd_one ag34
theorem rdo42 {cs : List PV} {off : Nat} : readCells Tryz.prog 42 cs off = cs[off]? := rd_one ag42
theorem rda54 {cs : List PV} {off : Nat} : readCells Tryz.prog 54 cs off = if off + 5 <= cs.length then some (.agg ((cs.drop off).take 5)) else none := rd_agg ag54 sz54
theorem alc54 {K : PS -> Prop} : stepN dr Tryz.prog ⟨d, .alloc 54, ty, pos, af, g⟩ st id tk K = K (PS.put { st with heap := (id, .box 54 [.val (.int .u8 0), .val (.int .i64 0), .val (.string ByteArray.empty), .val (.slice none 0 0), .val (.slice none 0 0)]) :: st.heap } d (.ptr id 0)) := s_allocC z54 rfl rfl
theorem fa54_0 {K : PV -> Prop} : fieldAddrK Tryz.prog st 54 x 0 K = bindO (st.ev x) (fldP 0 K) :=
 fld_ (P := Tryz.prog) (st := st) (x := x) (K := K) (f := 0) Tryz.underlying54 rfl sz5 (by decide)
theorem fi54_0 {K : PV -> Prop} : fieldK Tryz.prog st 54 x 0 K = bindO (st.ev x) (fieldP Tryz.prog 5 0 K) :=
 field_ (P := Tryz.prog) (st := st) (x := x) (K := K) (f := 0) Tryz.underlying54 rfl
theorem fa54_1 {K : PV -> Prop} : fieldAddrK Tryz.prog st 54 x 1 K = bindO (st.ev x) (fldP 1 K) :=
 fld_ (P := Tryz.prog) (st := st) (x := x) (K := K) (f := 1) Tryz.underlying54 rfl sz2 (by decide)
theorem fi54_1 {K : PV -> Prop} : fieldK Tryz.prog st 54 x 1 K = bindO (st.ev x) (fieldP Tryz.prog 2 1 K) :=
 field_ (P := Tryz.prog) (st := st) (x := x) (K := K) (f := 1) Tryz.underlying54 rfl
theorem fa54_2 {K : PV -> Prop} : fieldAddrK Tryz.prog st 54 x 2 K = bindO (st.ev x) (fldP 2 K) :=
 fld_ (P := Tryz.prog) (st := st) (x := x) (K := K) (f := 2) Tryz.underlying54 rfl sz9 (by decide)
theorem fi54_2 {K : PV -> Prop} : fieldK Tryz.prog st 54 x 2 K = bindO (st.ev x) (fieldP Tryz.prog 9 2 K) :=
 field_ (P := Tryz.prog) (st := st) (x := x) (K := K) (f := 2) Tryz.underlying54 rfl
theorem fa54_3 {K : PV -> Prop} : fieldAddrK Tryz.prog st 54 x 3 K = bindO (st.ev x) (fldP 3 K) :=
 fld_ (P := Tryz.prog) (st := st) (x := x) (K := K) (f := 3) Tryz.underlying54 rfl sz23 (by decide)
theorem fi54_3 {K : PV -> Prop} : fieldK Tryz.prog st 54 x 3 K = bindO (st.ev x) (fieldP Tryz.prog 23 3 K) :=
 field_ (P := Tryz.prog) (st := st) (x := x) (K := K) (f := 3) Tryz.underlying54 rfl
theorem fa54_4 {K : PV -> Prop} : fieldAddrK Tryz.prog st 54 x 4 K = bindO (st.ev x) (fldP 4 K) :=
 fld_ (P := Tryz.prog) (st := st) (x := x) (K := K) (f := 4) Tryz.underlying54 rfl sz26 (by decide)
theorem fi54_4 {K : PV -> Prop} : fieldK Tryz.prog st 54 x 4 K = bindO (st.ev x) (fieldP Tryz.prog 26 4 K) :=
 field_ (P := Tryz.prog) (st := st) (x := x) (K := K) (f := 4) Tryz.underlying54 rfl
theorem rdo60 {cs : List PV} {off : Nat} : readCells Tryz.prog 60 cs off = cs[off]? := rd_one ag60
theorem lns60 {K : PV -> Prop} : lenK Tryz.prog st 60 x K = bindO (st.ev x) (lenP K) := len_slice Tryz.underlying60
theorem ixs60 {K : PV -> Prop} : indexAddrK Tryz.prog st 60 x y K = bindO (st.ev x) fun p => bindO (st.ev y) fun q => intK q fun i => ixP 1 i K p := ix_slice Tryz.underlying60 sz3
theorem sls60 {lo hi : Option Operand} {K : PV -> Prop} : sliceK Tryz.prog st 60 x lo hi K = bindO (st.ev x) (slcP 1 st lo hi K) := slc_slice Tryz.underlying60 sz3
theorem app60 {tk : Nat} {K : Delta -> Prop} : appendK Tryz.prog st tk ⟨.builtin .append, #[x, y], #[60, 60]⟩ K = bindO (st.ev x) fun d => bindO (st.ev y) fun s => bindO (srcXs st 1 s) fun ys0 => bindO (fzLL ys0) fun ys => (∀ y ∈ ys, y.length = 1) /\ appT 3 1 8 st tk K d ys :=
 append_t Tryz.underlying60 sz3 by3 z3 rfl (by decide)
theorem bs60 {id tk n : Nat} {K : PS -> Prop} {l : List (Nat × Operand)} :
  stepN dr Tryz.prog ⟨d, .buildSlice 60 n l.toArray, ty, pos, af, g⟩ st id tk K = bindO (evParts st l) fun ps => bindO (valsOf ps 0) fun xs => (∀ x ∈ xs, x.length = 1) /\ xs.length = n /\ n * 1 <= 16777216 /\ K (PS.put { st with toks := upd st.toks tk ⟨3, 1, n⟩ } d (.row tk xs)) :=
 s_buildSlice Tryz.underlying60 sz3 z3 (by decide) rfl
theorem mks60 {K : PS -> Prop} {l c : Operand} : stepN dr Tryz.prog ⟨d, .makeSlice 60 l c, ty, pos, af, g⟩ st id tk K = bindO (st.ev l) fun p => bindO (st.ev c) fun q => intK p fun n => intK q fun m => n = m /\ 0 <= n /\ n <= 9223372036854775807 /\ 8 * n <= 281474976710656 /\
  K (PS.put { st with heap := (id, .box 3 ((List.range (n.toNat * 1)).map fun i => [.val (.int .i64 0)].getD (i % 1) (.val .nilIface))) :: st.heap } d (.ms id 0 n.toNat n.toNat)) :=
 s_makeSlice Tryz.underlying60 sz3 by3 z3 rfl rfl (by decide) rfl
theorem rda62 {cs : List PV} {off : Nat} : readCells Tryz.prog 62 cs off = if off + 2 <= cs.length then some (.agg ((cs.drop off).take 2)) else none := rd_agg ag62 sz62
theorem alc62 {K : PS -> Prop} : stepN dr Tryz.prog ⟨d, .alloc 62, ty, pos, af, g⟩ st id tk K = K (PS.put { st with heap := (id, .box 62 [.val (.bool false), .val (.slice none 0 0)]) :: st.heap } d (.ptr id 0)) := s_allocC z62 rfl rfl
theorem fa62_0 {K : PV -> Prop} : fieldAddrK Tryz.prog st 62 x 0 K = bindO (st.ev x) (fldP 0 K) :=
 fld_ (P := Tryz.prog) (st := st) (x := x) (K := K) (f := 0) Tryz.underlying62 rfl sz4 (by decide)
theorem fi62_0 {K : PV -> Prop} : fieldK Tryz.prog st 62 x 0 K = bindO (st.ev x) (fieldP Tryz.prog 4 0 K) :=
 field_ (P := Tryz.prog) (st := st) (x := x) (K := K) (f := 0) Tryz.underlying62 rfl
theorem fa62_1 {K : PV -> Prop} : fieldAddrK Tryz.prog st 62 x 1 K = bindO (st.ev x) (fldP 1 K) :=
 fld_ (P := Tryz.prog) (st := st) (x := x) (K := K) (f := 1) Tryz.underlying62 rfl sz60 (by decide)
theorem fi62_1 {K : PV -> Prop} : fieldK Tryz.prog st 62 x 1 K = bindO (st.ev x) (fieldP Tryz.prog 60 1 K) :=
 field_ (P := Tryz.prog) (st := st) (x := x) (K := K) (f := 1) Tryz.underlying62 rfl
theorem bld62 {l : List (Nat × Operand)} {K : PV -> Prop} : buildK Tryz.prog st 62 l K = bindO (evParts st l) fun ps => (ps.all fun e => match e.2 with | .tup _ => false | _ => true) = true /\ bindO (fillP (fun i => [(0, 1), (1, 1)][i]?) [.val (.bool false), .val (.slice none 0 0)] ps) fun cs => K (.agg cs) :=
 buildC Tryz.underlying62 z62 (by kernel_rfl) rfl rfl
theorem rdo64 {cs : List PV} {off : Nat} : readCells Tryz.prog 64 cs off = cs[off]? := rd_one ag64
theorem rdo65 {cs : List PV} {off : Nat} : readCells Tryz.prog 65 cs off = cs[off]? := rd_one ag65
theorem rda67 {cs : List PV} {off : Nat} : readCells Tryz.prog 67 cs off = if off + 5 <= cs.length then some (.agg ((cs.drop off).take 5)) else none := rd_agg ag67 sz67
theorem alc67 {K : PS -> Prop} : stepN dr Tryz.prog ⟨d, .alloc 67, ty, pos, af, g⟩ st id tk K = K (PS.put { st with heap := (id, .box 67 [.val (.int .i64 0), .val (.string ByteArray.empty), .val (.int .i64 0), .val (.int .i64 0), .val (.int .i64 0)]) :: st.heap } d (.ptr id 0)) := s_allocC z67 rfl rfl
theorem fa67_0 {K : PV -> Prop} : fieldAddrK Tryz.prog st 67 x 0 K = bindO (st.ev x) (fldP 0 K) :=
 fld_ (P := Tryz.prog) (st := st) (x := x) (K := K) (f := 0) Tryz.underlying67 rfl sz3 (by decide)
theorem fi67_0 {K : PV -> Prop} : fieldK Tryz.prog st 67 x 0 K = bindO (st.ev x) (fieldP Tryz.prog 3 0 K) :=
 field_ (P := Tryz.prog) (st := st) (x := x) (K := K) (f := 0) Tryz.underlying67 rfl
theorem fa67_1 {K : PV -> Prop} : fieldAddrK Tryz.prog st 67 x 1 K = bindO (st.ev x) (fldP 1 K) :=
 fld_ (P := Tryz.prog) (st := st) (x := x) (K := K) (f := 1) Tryz.underlying67 rfl sz9 (by decide)
theorem fi67_1 {K : PV -> Prop} : fieldK Tryz.prog st 67 x 1 K = bindO (st.ev x) (fieldP Tryz.prog 9 1 K) :=
 field_ (P := Tryz.prog) (st := st) (x := x) (K := K) (f := 1) Tryz.underlying67 rfl
theorem fa67_2 {K : PV -> Prop} : fieldAddrK Tryz.prog st 67 x 2 K = bindO (st.ev x) (fldP 2 K) :=
 fld_ (P := Tryz.prog) (st := st) (x := x) (K := K) (f := 2) Tryz.underlying67 rfl sz2 (by decide)
theorem fi67_2 {K : PV -> Prop} : fieldK Tryz.prog st 67 x 2 K = bindO (st.ev x) (fieldP Tryz.prog 2 2 K) :=
 field_ (P := Tryz.prog) (st := st) (x := x) (K := K) (f := 2) Tryz.underlying67 rfl
theorem fa67_3 {K : PV -> Prop} : fieldAddrK Tryz.prog st 67 x 3 K = bindO (st.ev x) (fldP 3 K) :=
 fld_ (P := Tryz.prog) (st := st) (x := x) (K := K) (f := 3) Tryz.underlying67 rfl sz3 (by decide)
theorem fi67_3 {K : PV -> Prop} : fieldK Tryz.prog st 67 x 3 K = bindO (st.ev x) (fieldP Tryz.prog 3 3 K) :=
 field_ (P := Tryz.prog) (st := st) (x := x) (K := K) (f := 3) Tryz.underlying67 rfl
theorem fa67_4 {K : PV -> Prop} : fieldAddrK Tryz.prog st 67 x 4 K = bindO (st.ev x) (fldP 4 K) :=
 fld_ (P := Tryz.prog) (st := st) (x := x) (K := K) (f := 4) Tryz.underlying67 rfl sz3 (by decide)
theorem fi67_4 {K : PV -> Prop} : fieldK Tryz.prog st 67 x 4 K = bindO (st.ev x) (fieldP Tryz.prog 3 4 K) :=
 field_ (P := Tryz.prog) (st := st) (x := x) (K := K) (f := 4) Tryz.underlying67 rfl
theorem bld67 {l : List (Nat × Operand)} {K : PV -> Prop} : buildK Tryz.prog st 67 l K = bindO (evParts st l) fun ps => (ps.all fun e => match e.2 with | .tup _ => false | _ => true) = true /\ bindO (fillP (fun i => [(0, 1), (1, 1), (2, 1), (3, 1), (4, 1)][i]?) [.val (.int .i64 0), .val (.string ByteArray.empty), .val (.int .i64 0), .val (.int .i64 0), .val (.int .i64 0)] ps) fun cs => K (.agg cs) :=
 buildC Tryz.underlying67 z67 (by kernel_rfl) rfl rfl
theorem rda69 {cs : List PV} {off : Nat} : readCells Tryz.prog 69 cs off = if off + 9 <= cs.length then some (.agg ((cs.drop off).take 9)) else none := rd_agg ag69 sz69
theorem fa69_0 {K : PV -> Prop} : fieldAddrK Tryz.prog st 69 x 0 K = bindO (st.ev x) (fldP 0 K) :=
 fld_ (P := Tryz.prog) (st := st) (x := x) (K := K) (f := 0) Tryz.underlying69 rfl sz65 (by decide)
theorem fi69_0 {K : PV -> Prop} : fieldK Tryz.prog st 69 x 0 K = bindO (st.ev x) (fieldP Tryz.prog 65 0 K) :=
 field_ (P := Tryz.prog) (st := st) (x := x) (K := K) (f := 0) Tryz.underlying69 rfl
theorem fa69_1 {K : PV -> Prop} : fieldAddrK Tryz.prog st 69 x 1 K = bindO (st.ev x) (fldP 1 K) :=
 fld_ (P := Tryz.prog) (st := st) (x := x) (K := K) (f := 1) Tryz.underlying69 rfl sz67 (by decide)
theorem fi69_1 {K : PV -> Prop} : fieldK Tryz.prog st 69 x 1 K = bindO (st.ev x) (fieldP Tryz.prog 67 1 K) :=
 field_ (P := Tryz.prog) (st := st) (x := x) (K := K) (f := 1) Tryz.underlying69 rfl
theorem fa69_2 {K : PV -> Prop} : fieldAddrK Tryz.prog st 69 x 2 K = bindO (st.ev x) (fldP 6 K) :=
 fld_ (P := Tryz.prog) (st := st) (x := x) (K := K) (f := 2) Tryz.underlying69 rfl sz3 (by decide)
theorem fi69_2 {K : PV -> Prop} : fieldK Tryz.prog st 69 x 2 K = bindO (st.ev x) (fieldP Tryz.prog 3 6 K) :=
 field_ (P := Tryz.prog) (st := st) (x := x) (K := K) (f := 2) Tryz.underlying69 rfl
theorem fa69_3 {K : PV -> Prop} : fieldAddrK Tryz.prog st 69 x 3 K = bindO (st.ev x) (fldP 7 K) :=
 fld_ (P := Tryz.prog) (st := st) (x := x) (K := K) (f := 3) Tryz.underlying69 rfl sz3 (by decide)
theorem fi69_3 {K : PV -> Prop} : fieldK Tryz.prog st 69 x 3 K = bindO (st.ev x) (fieldP Tryz.prog 3 7 K) :=
 field_ (P := Tryz.prog) (st := st) (x := x) (K := K) (f := 3) Tryz.underlying69 rfl
theorem fa69_4 {K : PV -> Prop} : fieldAddrK Tryz.prog st 69 x 4 K = bindO (st.ev x) (fldP 8 K) :=
 fld_ (P := Tryz.prog) (st := st) (x := x) (K := K) (f := 4) Tryz.underlying69 rfl sz34 (by decide)
theorem fi69_4 {K : PV -> Prop} : fieldK Tryz.prog st 69 x 4 K = bindO (st.ev x) (fieldP Tryz.prog 34 8 K) :=
 field_ (P := Tryz.prog) (st := st) (x := x) (K := K) (f := 4) Tryz.underlying69 rfl
theorem bld69 {l : List (Nat × Operand)} {K : PV -> Prop} : buildK Tryz.prog st 69 l K = bindO (evParts st l) fun ps => (ps.all fun e => match e.2 with | .tup _ => false | _ => true) = true /\ bindO (fillP (fun i => [(0, 1), (1, 5), (6, 1), (7, 1), (8, 1)][i]?) [.val (.pointer none), .val (.int .i64 0), .val (.string ByteArray.empty), .val (.int .i64 0), .val (.int .i64 0), .val (.int .i64 0), .val (.int .i64 0), .val (.int .i64 0), .val (.int .i64 0)] ps) fun cs => K (.agg cs) :=
 buildC Tryz.underlying69 z69 (by kernel_rfl) rfl rfl
theorem rda92 {cs : List PV} {off : Nat} : readCells Tryz.prog 92 cs off = if off + 8 <= cs.length then some (.agg ((cs.drop off).take 8)) else none := rd_agg ag92 sz92
theorem lns92 {K : PV -> Prop} : lenK Tryz.prog st 92 x K = K (.val (.int .i64 (8 : Nat))) := len_array Tryz.underlying92
theorem ixs92 {K : PV -> Prop} : indexAddrK Tryz.prog st 92 x y K = bindO (st.ev x) fun p => bindO (st.ev y) fun q => intK q fun i => ixA 1 8 i K p := ix_array Tryz.underlying92 sz9
theorem bld92 {l : List (Nat × Operand)} {K : PV -> Prop} : buildK Tryz.prog st 92 l K = bindO (evParts st l) fun ps => (ps.all fun e => match e.2 with | .tup _ => false | _ => true) = true /\ bindO (fillP (fun i => some (i * 1, 1)) [.val (.string ByteArray.empty), .val (.string ByteArray.empty), .val (.string ByteArray.empty), .val (.string ByteArray.empty), .val (.string ByteArray.empty), .val (.string ByteArray.empty), .val (.string ByteArray.empty), .val (.string ByteArray.empty)] ps) fun cs => K (.agg cs) :=
 buildA Tryz.underlying92 z92 sz9 rfl rfl
theorem rda94 {cs : List PV} {off : Nat} : readCells Tryz.prog 94 cs off = if off + 2 <= cs.length then some (.agg ((cs.drop off).take 2)) else none := rd_agg ag94 sz94
theorem fa94_0 {K : PV -> Prop} : fieldAddrK Tryz.prog st 94 x 0 K = bindO (st.ev x) (fldP 0 K) :=
 fld_ (P := Tryz.prog) (st := st) (x := x) (K := K) (f := 0) Tryz.underlying94 rfl sz9 (by decide)
theorem fi94_0 {K : PV -> Prop} : fieldK Tryz.prog st 94 x 0 K = bindO (st.ev x) (fieldP Tryz.prog 9 0 K) :=
 field_ (P := Tryz.prog) (st := st) (x := x) (K := K) (f := 0) Tryz.underlying94 rfl
theorem fa94_1 {K : PV -> Prop} : fieldAddrK Tryz.prog st 94 x 1 K = bindO (st.ev x) (fldP 1 K) :=
 fld_ (P := Tryz.prog) (st := st) (x := x) (K := K) (f := 1) Tryz.underlying94 rfl sz3 (by decide)
theorem fi94_1 {K : PV -> Prop} : fieldK Tryz.prog st 94 x 1 K = bindO (st.ev x) (fieldP Tryz.prog 3 1 K) :=
 field_ (P := Tryz.prog) (st := st) (x := x) (K := K) (f := 1) Tryz.underlying94 rfl
theorem bld94 {l : List (Nat × Operand)} {K : PV -> Prop} : buildK Tryz.prog st 94 l K = bindO (evParts st l) fun ps => (ps.all fun e => match e.2 with | .tup _ => false | _ => true) = true /\ bindO (fillP (fun i => [(0, 1), (1, 1)][i]?) [.val (.string ByteArray.empty), .val (.int .i64 0)] ps) fun cs => K (.agg cs) :=
 buildC Tryz.underlying94 z94 (by kernel_rfl) rfl rfl
theorem rdo114 {cs : List PV} {off : Nat} : readCells Tryz.prog 114 cs off = cs[off]? := rd_one ag114
theorem rdo116 {cs : List PV} {off : Nat} : readCells Tryz.prog 116 cs off = cs[off]? := rd_one ag116
theorem rdo117 {cs : List PV} {off : Nat} : readCells Tryz.prog 117 cs off = cs[off]? := rd_one ag117
theorem rdo118 {cs : List PV} {off : Nat} : readCells Tryz.prog 118 cs off = cs[off]? := rd_one ag118
theorem rdo119 {cs : List PV} {off : Nat} : readCells Tryz.prog 119 cs off = cs[off]? := rd_one ag119
theorem rda122 {cs : List PV} {off : Nat} : readCells Tryz.prog 122 cs off = if off + 5 <= cs.length then some (.agg ((cs.drop off).take 5)) else none := rd_agg ag122 sz122
theorem alc122 {K : PS -> Prop} : stepN dr Tryz.prog ⟨d, .alloc 122, ty, pos, af, g⟩ st id tk K = K (PS.put { st with heap := (id, .box 122 [.val (.int .i64 0), .val (.int .i64 0), .val (.int .i64 0), .val (.int .i64 0), .val (.int .i64 0)]) :: st.heap } d (.ptr id 0)) := s_allocC z122 rfl rfl
theorem lns122 {K : PV -> Prop} : lenK Tryz.prog st 122 x K = K (.val (.int .i64 (5 : Nat))) := len_array Tryz.underlying122
theorem ixs122 {K : PV -> Prop} : indexAddrK Tryz.prog st 122 x y K = bindO (st.ev x) fun p => bindO (st.ev y) fun q => intK q fun i => ixA 1 5 i K p := ix_array Tryz.underlying122 sz3
theorem bld122 {l : List (Nat × Operand)} {K : PV -> Prop} : buildK Tryz.prog st 122 l K = bindO (evParts st l) fun ps => (ps.all fun e => match e.2 with | .tup _ => false | _ => true) = true /\ bindO (fillP (fun i => some (i * 1, 1)) [.val (.int .i64 0), .val (.int .i64 0), .val (.int .i64 0), .val (.int .i64 0), .val (.int .i64 0)] ps) fun cs => K (.agg cs) :=
 buildA Tryz.underlying122 z122 sz3 rfl rfl
theorem rdo128 {cs : List PV} {off : Nat} : readCells Tryz.prog 128 cs off = cs[off]? := rd_one ag128
theorem rdo130 {cs : List PV} {off : Nat} : readCells Tryz.prog 130 cs off = cs[off]? := rd_one ag130
theorem rda132 {cs : List PV} {off : Nat} : readCells Tryz.prog 132 cs off = if off + 2 <= cs.length then some (.agg ((cs.drop off).take 2)) else none := rd_agg ag132 sz132
theorem alc132 {K : PS -> Prop} : stepN dr Tryz.prog ⟨d, .alloc 132, ty, pos, af, g⟩ st id tk K = K (PS.put { st with heap := (id, .box 132 [.val (.pointer none), .val (.slice none 0 0)]) :: st.heap } d (.ptr id 0)) := s_allocC z132 rfl rfl
theorem fa132_0 {K : PV -> Prop} : fieldAddrK Tryz.prog st 132 x 0 K = bindO (st.ev x) (fldP 0 K) :=
 fld_ (P := Tryz.prog) (st := st) (x := x) (K := K) (f := 0) Tryz.underlying132 rfl sz130 (by decide)
theorem fi132_0 {K : PV -> Prop} : fieldK Tryz.prog st 132 x 0 K = bindO (st.ev x) (fieldP Tryz.prog 130 0 K) :=
 field_ (P := Tryz.prog) (st := st) (x := x) (K := K) (f := 0) Tryz.underlying132 rfl
theorem fa132_1 {K : PV -> Prop} : fieldAddrK Tryz.prog st 132 x 1 K = bindO (st.ev x) (fldP 1 K) :=
 fld_ (P := Tryz.prog) (st := st) (x := x) (K := K) (f := 1) Tryz.underlying132 rfl sz23 (by decide)
theorem fi132_1 {K : PV -> Prop} : fieldK Tryz.prog st 132 x 1 K = bindO (st.ev x) (fieldP Tryz.prog 23 1 K) :=
 field_ (P := Tryz.prog) (st := st) (x := x) (K := K) (f := 1) Tryz.underlying132 rfl
theorem rdo136 {cs : List PV} {off : Nat} : readCells Tryz.prog 136 cs off = cs[off]? := rd_one ag136
theorem ifx136 : (∃ ms, Tryz.prog.underlying 136 = some (.interface ms)) = True := eq_true ⟨_, Tryz.underlying136⟩
theorem rdo154 {cs : List PV} {off : Nat} : readCells Tryz.prog 154 cs off = cs[off]? := rd_one ag154
theorem rdo158 {cs : List PV} {off : Nat} : readCells Tryz.prog 158 cs off = cs[off]? := rd_one ag158
theorem rdo167 {cs : List PV} {off : Nat} : readCells Tryz.prog 167 cs off = cs[off]? := rd_one ag167
theorem mki167 {K : PS -> Prop} : stepN dr Tryz.prog ⟨d, .makeInterface 167 x, ty, pos, af, g⟩ st id tk K = bindO (st.ev x) fun p => K (st.put d (.iface 167 p)) := s_makeIface Tryz.underlying167 rfl
theorem rdo168 {cs : List PV} {off : Nat} : readCells Tryz.prog 168 cs off = cs[off]? := rd_one ag168
theorem rdo171 {cs : List PV} {off : Nat} : readCells Tryz.prog 171 cs off = cs[off]? := rd_one ag171
theorem mki171 {K : PS -> Prop} : stepN dr Tryz.prog ⟨d, .makeInterface 171 x, ty, pos, af, g⟩ st id tk K = bindO (st.ev x) fun p => K (st.put d (.iface 171 p)) := s_makeIface Tryz.underlying171 rfl
theorem rda178 {cs : List PV} {off : Nat} : readCells Tryz.prog 178 cs off = if off + 3 <= cs.length then some (.agg ((cs.drop off).take 3)) else none := rd_agg ag178 sz178
theorem fa178_0 {K : PV -> Prop} : fieldAddrK Tryz.prog st 178 x 0 K = bindO (st.ev x) (fldP 0 K) :=
 fld_ (P := Tryz.prog) (st := st) (x := x) (K := K) (f := 0) Tryz.underlying178 rfl sz9 (by decide)
theorem fi178_0 {K : PV -> Prop} : fieldK Tryz.prog st 178 x 0 K = bindO (st.ev x) (fieldP Tryz.prog 9 0 K) :=
 field_ (P := Tryz.prog) (st := st) (x := x) (K := K) (f := 0) Tryz.underlying178 rfl
theorem fa178_1 {K : PV -> Prop} : fieldAddrK Tryz.prog st 178 x 1 K = bindO (st.ev x) (fldP 1 K) :=
 fld_ (P := Tryz.prog) (st := st) (x := x) (K := K) (f := 1) Tryz.underlying178 rfl sz9 (by decide)
theorem fi178_1 {K : PV -> Prop} : fieldK Tryz.prog st 178 x 1 K = bindO (st.ev x) (fieldP Tryz.prog 9 1 K) :=
 field_ (P := Tryz.prog) (st := st) (x := x) (K := K) (f := 1) Tryz.underlying178 rfl
theorem fa178_2 {K : PV -> Prop} : fieldAddrK Tryz.prog st 178 x 2 K = bindO (st.ev x) (fldP 2 K) :=
 fld_ (P := Tryz.prog) (st := st) (x := x) (K := K) (f := 2) Tryz.underlying178 rfl sz136 (by decide)
theorem fi178_2 {K : PV -> Prop} : fieldK Tryz.prog st 178 x 2 K = bindO (st.ev x) (fieldP Tryz.prog 136 2 K) :=
 field_ (P := Tryz.prog) (st := st) (x := x) (K := K) (f := 2) Tryz.underlying178 rfl
theorem bld178 {l : List (Nat × Operand)} {K : PV -> Prop} : buildK Tryz.prog st 178 l K = bindO (evParts st l) fun ps => (ps.all fun e => match e.2 with | .tup _ => false | _ => true) = true /\ bindO (fillP (fun i => [(0, 1), (1, 1), (2, 1)][i]?) [.val (.string ByteArray.empty), .val (.string ByteArray.empty), .val (.nilIface)] ps) fun cs => K (.agg cs) :=
 buildC Tryz.underlying178 z178 (by kernel_rfl) rfl rfl
theorem rdo180 {cs : List PV} {off : Nat} : readCells Tryz.prog 180 cs off = cs[off]? := rd_one ag180
theorem mki180 {K : PS -> Prop} : stepN dr Tryz.prog ⟨d, .makeInterface 180 x, ty, pos, af, g⟩ st id tk K = bindO (st.ev x) fun p => K (st.put d (.iface 180 p)) := s_makeIface Tryz.underlying180 rfl
theorem rda182 {cs : List PV} {off : Nat} : readCells Tryz.prog 182 cs off = if off + 1 <= cs.length then some (.agg ((cs.drop off).take 1)) else none := rd_agg ag182 sz182
theorem fa182_0 {K : PV -> Prop} : fieldAddrK Tryz.prog st 182 x 0 K = bindO (st.ev x) (fldP 0 K) :=
 fld_ (P := Tryz.prog) (st := st) (x := x) (K := K) (f := 0) Tryz.underlying182 rfl sz9 (by decide)
theorem fi182_0 {K : PV -> Prop} : fieldK Tryz.prog st 182 x 0 K = bindO (st.ev x) (fieldP Tryz.prog 9 0 K) :=
 field_ (P := Tryz.prog) (st := st) (x := x) (K := K) (f := 0) Tryz.underlying182 rfl
theorem bld182 {l : List (Nat × Operand)} {K : PV -> Prop} : buildK Tryz.prog st 182 l K = bindO (evParts st l) fun ps => (ps.all fun e => match e.2 with | .tup _ => false | _ => true) = true /\ bindO (fillP (fun i => [(0, 1)][i]?) [.val (.string ByteArray.empty)] ps) fun cs => K (.agg cs) :=
 buildC Tryz.underlying182 z182 (by kernel_rfl) rfl rfl
theorem rda184 {cs : List PV} {off : Nat} : readCells Tryz.prog 184 cs off = if off + 24 <= cs.length then some (.agg ((cs.drop off).take 24)) else none := rd_agg ag184 sz184
theorem alc184 {K : PS -> Prop} : stepN dr Tryz.prog ⟨d, .alloc 184, ty, pos, af, g⟩ st id tk K = K (PS.put { st with heap := (id, .box 184 [.val (.int .u8 0), .val (.int .u8 0), .val (.int .u8 0), .val (.int .u8 0), .val (.int .u8 0), .val (.int .u8 0), .val (.int .u8 0), .val (.int .u8 0), .val (.int .u8 0), .val (.int .u8 0), .val (.int .u8 0), .val (.int .u8 0), .val (.int .u8 0), .val (.int .u8 0), .val (.int .u8 0), .val (.int .u8 0), .val (.int .u8 0), .val (.int .u8 0), .val (.int .u8 0), .val (.int .u8 0), .val (.int .u8 0), .val (.int .u8 0), .val (.int .u8 0), .val (.int .u8 0)]) :: st.heap } d (.ptr id 0)) := s_allocC z184 rfl rfl
theorem lns184 {K : PV -> Prop} : lenK Tryz.prog st 184 x K = K (.val (.int .i64 (24 : Nat))) := len_array Tryz.underlying184
theorem ixs184 {K : PV -> Prop} : indexAddrK Tryz.prog st 184 x y K = bindO (st.ev x) fun p => bindO (st.ev y) fun q => intK q fun i => ixA 1 24 i K p := ix_array Tryz.underlying184 sz5
theorem rda191 {cs : List PV} {off : Nat} : readCells Tryz.prog 191 cs off = if off + 20 <= cs.length then some (.agg ((cs.drop off).take 20)) else none := rd_agg ag191 sz191
theorem lns191 {K : PV -> Prop} : lenK Tryz.prog st 191 x K = K (.val (.int .i64 (20 : Nat))) := len_array Tryz.underlying191
theorem ixs191 {K : PV -> Prop} : indexAddrK Tryz.prog st 191 x y K = bindO (st.ev x) fun p => bindO (st.ev y) fun q => intK q fun i => ixA 1 20 i K p := ix_array Tryz.underlying191 sz168
theorem rdo192 {cs : List PV} {off : Nat} : readCells Tryz.prog 192 cs off = cs[off]? := rd_one ag192
theorem rda196 {cs : List PV} {off : Nat} : readCells Tryz.prog 196 cs off = if off + 32 <= cs.length then some (.agg ((cs.drop off).take 32)) else none := rd_agg ag196 sz196
theorem lns196 {K : PV -> Prop} : lenK Tryz.prog st 196 x K = K (.val (.int .i64 (32 : Nat))) := len_array Tryz.underlying196
theorem ixs196 {K : PV -> Prop} : indexAddrK Tryz.prog st 196 x y K = bindO (st.ev x) fun p => bindO (st.ev y) fun q => intK q fun i => ixA 1 32 i K p := ix_array Tryz.underlying196 sz5
theorem rda197 {cs : List PV} {off : Nat} : readCells Tryz.prog 197 cs off = if off + 64 <= cs.length then some (.agg ((cs.drop off).take 64)) else none := rd_agg ag197 sz197
theorem lns197 {K : PV -> Prop} : lenK Tryz.prog st 197 x K = K (.val (.int .i64 (64 : Nat))) := len_array Tryz.underlying197
theorem ixs197 {K : PV -> Prop} : indexAddrK Tryz.prog st 197 x y K = bindO (st.ev x) fun p => bindO (st.ev y) fun q => intK q fun i => ixA 1 64 i K p := ix_array Tryz.underlying197 sz5
attribute [go_sem ↓] mki9 rng9 lns9 ixs9 sls9 lns22 ixs22 sls22 app22 bs22 mks22 lns23 ixs23 sls23 aps23 cvr23 app23 bs23 mks23 lns25 ixs25 sls25 app25 bs25 mks25 alc26 lns26 ixs26 sls26 app26 bs26 mks26 alc28 fa28_0 fi28_0 fa28_1 fi28_1 fa28_2 fi28_2 fa28_3 fi28_3 fa28_4 fi28_4 fa28_5 fi28_5 bld28 lns31 ixs31 sls31 app31 bs31 mks31 alc33 fa33_0 fi33_0 fa33_1 fi33_1 fa33_2 fi33_2 fa33_3 fi33_3 fa33_4 fi33_4 fa33_5 fi33_5 bld33 alc54 fa54_0 fi54_0 fa54_1 fi54_1 fa54_2 fi54_2 fa54_3 fi54_3 fa54_4 fi54_4 lns60 ixs60 sls60 app60 bs60 mks60 alc62 fa62_0 fi62_0 fa62_1 fi62_1 bld62 alc67 fa67_0 fi67_0 fa67_1 fi67_1 fa67_2 fi67_2 fa67_3 fi67_3 fa67_4 fi67_4 bld67 fa69_0 fi69_0 fa69_1 fi69_1 fa69_2 fi69_2 fa69_3 fi69_3 fa69_4 fi69_4 bld69 lns92 ixs92 bld92 fa94_0 fi94_0 fa94_1 fi94_1 bld94 alc122 lns122 ixs122 bld122 alc132 fa132_0 fi132_0 fa132_1 fi132_1 mki167 mki171 fa178_0 fi178_0 fa178_1 fi178_1 fa178_2 fi178_2 bld178 mki180 fa182_0 fi182_0 bld182 alc184 lns184 ixs184 lns191 ixs191 lns196 ixs196 lns197 ixs197
attribute [go_sem] rdo2 sz2 Tryz.underlying2 rdo3 sz3 Tryz.underlying3 rdo4 sz4 Tryz.underlying4 rdo5 sz5 Tryz.underlying5 rdo9 sz9 Tryz.underlying9 rdo20 sz20 ifx20 rdo21 sz21 Tryz.underlying21 rdo22 sz22 rdo23 sz23 isb23 Tryz.underlying23 rdo25 sz25 rdo26 sz26 rda28 sz28 rdo31 sz31 rda33 sz33 rdo34 sz34 Tryz.underlying34 rdo42 sz42 rda54 sz54 rdo60 sz60 rda62 sz62 rdo64 sz64 rdo65 sz65 rda67 sz67 rda69 sz69 rda92 sz92 rda94 sz94 rdo114 sz114 rdo116 sz116 rdo117 sz117 rdo118 sz118 rdo119 sz119 rda122 sz122 rdo128 sz128 rdo130 sz130 rda132 sz132 rdo136 sz136 ifx136 rdo154 sz154 rdo158 sz158 Tryz.underlying158 rdo167 sz167 Tryz.underlying167 rdo168 sz168 Tryz.underlying168 rdo171 sz171 rda178 sz178 rdo180 sz180 rda182 sz182 rda184 sz184 rda191 sz191 rdo192 sz192 Tryz.underlying192 rda196 sz196 rda197 sz197
end Go.Proofs.YtcgmpcbkndpmbaaGreatDoor

end
section
open Go Go.Proofs Go.Pw Go.RowKit
namespace Go.Proofs.YtcgmpcbkndpmbaaGreatDoor
set_option maxRecDepth 4000
set_option linter.unusedVariables false
set_option linter.unusedSimpArgs false
theorem dropK_nil : ∀ l : List (Nat × Tok), dropK [] l = l
 | [] => by simp [dropK]
 | e :: r => by simp [dropK, inL, dropK_nil r]
theorem OkI.on1 {g0 : FuncId} {T : TypeId} {cs cs' ags : List PV} {R : PV} (i : Nat) {st : PS}
  (ok : OkI Tryz.prog g0 (.ptr 0 0 :: ags) ⟨[], [(0, .box T cs)], [], 1, 0⟩ (fun r st' => r = R /\ st'.heap = [(0, .box T cs')] /\ st'.toks = [] /\ st'.nx = 1))
  (hi : i < st.nx) (hcs : PV.ltL 0 0 cs = true) (hcs' : PV.ltL 0 0 cs' = true) (hag : PV.ltL 0 0 ags = true) (hR : R.lt 0 0 = true) (ho : lkp st.heap i = some (.box T cs)) :
  OkI Tryz.prog g0 (.ptr i 0 :: ags) st (fun r st' => r = R /\ ∃ nt', st.nt <= nt' /\ st' = ⟨st.env, (i, .box T cs') :: dropH [i] st.heap, st.toks, st.nx, nt'⟩) := by
 refine OkI.mono' (OkI.frameT [i] [] ok (by simp) (fun j hj => by rw [List.mem_singleton] at hj; subst hj; exact hi) (by simp) (fun j hj => by cases hj) (fun e he => ?_) (fun e he => by cases he) ?_ ?_) ?_
 ·simp only [List.mem_singleton] at he
  subst he
  refine ⟨Nat.zero_lt_one, ltL_low (Nat.zero_le 1) (Nat.zero_le 0) cs hcs, ?_⟩
  show lkp st.heap i = _
  rw [ho, PObj.rm, rmL_frz cs hcs]
 ·simp only [PV.ltL, PV.lt, List.length_singleton, Nat.zero_lt_one, decide_true, Bool.true_and]
  exact ltL_low (Nat.zero_le 1) (Nat.zero_le 0) ags hag
 ·rw [PV.rmL, rmL_frz ags hag]; rfl
 ·rintro r st' ⟨r0, s0, ⟨rfl, h3, h4, h5⟩, rfl, rfl⟩
  refine ⟨rm_frz r0 hR, s0.nt - 0 + st.nt, by omega, ?_⟩
  rw [h3, h4, h5]
  simp only [rmH, rmK, PObj.rm, rmL_frz cs' hcs', List.length_singleton, List.length_nil, List.cons_append, List.nil_append, dropK_nil]
  have : 1 - 1 + st.nx = st.nx := by omega
  rw [this]
  rfl
theorem OkI.on2 {g0 : FuncId} {T U : TypeId} {cs cs' ds ds' ags : List PV} {R : PV} (i j : Nat) {st : PS}
  (ok : OkI Tryz.prog g0 (.ptr 0 0 :: .ptr 1 0 :: ags) ⟨[], [(0, .box T cs), (1, .box U ds)], [], 2, 0⟩ (fun r st' => r = R /\ st'.heap = [(0, .box T cs'), (1, .box U ds')] /\ st'.toks = [] /\ st'.nx = 2))
  (hij : i ≠ j) (hi : i < st.nx) (hj : j < st.nx) (hcs : PV.ltL 0 0 cs = true) (hcs' : PV.ltL 0 0 cs' = true) (hds : PV.ltL 0 0 ds = true) (hds' : PV.ltL 0 0 ds' = true) (hag : PV.ltL 0 0 ags = true) (hR : R.lt 0 0 = true) (ho : lkp st.heap i = some (.box T cs)) (hp : lkp st.heap j = some (.box U ds)) :
  OkI Tryz.prog g0 (.ptr i 0 :: .ptr j 0 :: ags) st (fun r st' => r = R /\ ∃ nt', st.nt <= nt' /\ st' = ⟨st.env, (i, .box T cs') :: (j, .box U ds') :: dropH [i, j] st.heap, st.toks, st.nx, nt'⟩) := by
 refine OkI.mono' (OkI.frameT [i, j] [] ok (by simp [hij]) (fun k hk => by simp at hk; rcases hk with rfl | rfl <;> assumption) (by simp) (fun j hj => by cases hj) (fun e he => ?_) (fun e he => by cases he) ?_ ?_) ?_
 ·simp only [List.mem_cons, List.not_mem_nil, or_false] at he
  rcases he with rfl | rfl
  ·refine ⟨Nat.zero_lt_succ _, ltL_low (Nat.zero_le 2) (Nat.zero_le 0) cs hcs, ?_⟩
   show lkp st.heap i = _
   rw [ho, PObj.rm, rmL_frz cs hcs]
  ·refine ⟨Nat.lt_succ_self _, ltL_low (Nat.zero_le 2) (Nat.zero_le 0) ds hds, ?_⟩
   show lkp st.heap j = _
   rw [hp, PObj.rm, rmL_frz ds hds]
 ·simp only [PV.ltL, PV.lt, List.length_cons, List.length_nil, Nat.zero_add]
  have := ltL_low (Nat.zero_le 2) (Nat.zero_le 0) ags hag
  rw [this]
  rfl
 ·rw [PV.rmL, PV.rmL, rmL_frz ags hag]; rfl
 ·rintro r st' ⟨r0, s0, ⟨rfl, h3, h4, h5⟩, rfl, rfl⟩
  refine ⟨rm_frz r0 hR, s0.nt - 0 + st.nt, by omega, ?_⟩
  rw [h3, h4, h5]
  simp only [rmH, rmK, PObj.rm, rmL_frz cs' hcs', rmL_frz ds' hds', List.length_cons, List.length_nil, List.cons_append, List.nil_append, dropK_nil]
  have : 0 + 1 + 1 - (0 + 1 + 1) + st.nx = st.nx := by omega
  have h2 : 2 - (0 + 1 + 1) + st.nx = st.nx := by omega
  rw [h2]
  rfl
end Go.Proofs.YtcgmpcbkndpmbaaGreatDoor

end
section
open Go Go.Proofs Go.RowKit
namespace Go.Proofs.YtcgmpcbkndpmbaaGreatDoor
set_option maxRecDepth 4000
set_option linter.unusedVariables false
set_option linter.unusedSimpArgs false
def Heads (T n : Nat) : Prop := 0 < n /\ liesAt Tryz.prog Tryz.prog.depth T (n / Tryz.prog.cellsOf T) 0 132 1 = true
set_option maxHeartbeats 1000000 in
set_option maxRecDepth 100000 in
theorem copy_used (b : Nat) (w : World) (h0 : w.cell? ⟨b, 0, none⟩ = some (.pointer (some ⟨b, 0, none⟩))) :
  Calls Tryz.prog 106 #[.pointer (some ⟨b, 0, none⟩)] w fun e w' => e = .returned (.tuple #[]) /\ w' = w := by
 obtain ⟨j, hj, hjs⟩ := Option.map_eq_some_iff.1 (show (Tryz.prog.info? 132).map (·.size) = some 2 by kernel_rfl)
 go_enter Tryz.func106, Tryz.ntmps106
 go_wp2
 rw [Lib.run_neq_ptr_same w _ Tryz.underlying130 hj]
 go_wp2
 go_end0
 exact ⟨rfl, rfl⟩
set_option maxHeartbeats 1000000 in
set_option maxRecDepth 100000 in
theorem copy_fresh {T n : Nat} (hT : Heads T n) (b : Nat) (w : World) (h0 : w.cell? ⟨b, 0, none⟩ = some (.pointer none)) (hsh : w.shape? b = some (T, n)) (hfz : w.frozen? ⟨b, 0, none⟩ = false) :
  Calls Tryz.prog 106 #[.pointer (some ⟨b, 0, none⟩)] w fun e w' => e = .returned (.tuple #[]) /\ w' = w.setCell ⟨b, 0, none⟩ (.pointer (some ⟨b, 0, none⟩)) := by
 obtain ⟨j, hj, hjs⟩ := Option.map_eq_some_iff.1 (show (Tryz.prog.info? 132).map (·.size) = some 2 by kernel_rfl)
 obtain ⟨hn, hlies⟩ := hT
 go_enter Tryz.func106, Tryz.ntmps106
 go_wp2
 rw [Lib.run_to_unsafe w ⟨b, 0, none⟩ Tryz.underlying130 Tryz.underlying163 hj (by rw [hjs]; decide) hsh hn]
 simp only [Result.andThen]
 rw [Oper.upon_value]
 go_wp2
 rw [run_callFunc_extern Tryz.func119 (by kernel_rfl) (by kernel_rfl) (by kernel_rfl) (e := Extern.AbiNoEscape.same) (by kernel_rfl)]
 rw [Lib.run_noEscape]
 simp only [Result.andThen]
 rw [Oper.upon_value]
 go_wp2
 rw [Lib.run_from_unsafe w ⟨b, 0, none⟩ Tryz.underlying163 Tryz.underlying130 hj hsh hlies]
 simp only [Result.andThen]
 rw [Oper.upon_value]
 go_wp2
 go_end0
 exact ⟨rfl, rfl⟩
set_option maxHeartbeats 2000000 in
set_option maxRecDepth 100000 in
theorem string_nil (b : Nat) (w : World) (h1 : w.cell? ⟨b, 1, none⟩ = some (.slice none 0 0)) :
  Calls Tryz.prog 92 #[.pointer (some ⟨b, 0, none⟩)] w fun e w' => e = .returned (.string ⟨#[]⟩) /\ w' = w.drew := by
 have hUS : ∀ (W : World) (q : Option Addr), (Builtin.unsafeString_ #[154, 3] 9 #[.pointer q, .int .i64 0]).run Tryz.prog W = .ok (.string .empty) W := fun W q => Lib.run_unsafeString_none W _ _ _ q
 have c1 : w.drew.cell? ⟨b, 1, none⟩ = some (.slice none 0 0) := h1
 have hSD : (Builtin.unsafeSliceData_ #[23] 154 #[.slice none 0 0]).run Tryz.prog w.drew = .ok (.pointer none) w.drew := rfl
 have mixed : Tryz.prog.follows .mixedOrders = true := by kernel_rfl
 go_enter Tryz.func92, Tryz.ntmps92
 go_wp2
 go_region_o
 all_goals (go_wp2; go_ret; exact ⟨rfl, rfl⟩)
set_option maxHeartbeats 2000000 in
set_option maxRecDepth 100000 in
theorem string_some (b g cap : Nat) (w : World) (l : List UInt8) (h0 : l ≠ []) (hlc : l.length <= cap) (hcm : cap <= maxLen) (h1 : w.cell? ⟨b, 1, none⟩ = some (.slice (some ⟨g, 0, none⟩) l.length cap))
  (cur : Array Value) (hg : w.heap[g]? = some (.cells cur 5 (0, 0))) (hcs : cur.size = cap) (hc : ∀ (j : Nat) (x : UInt8), l[j]? = some x -> cur[j]? = some (Value.int .u8 x.toNat)) :
  Calls Tryz.prog 92 #[.pointer (some ⟨b, 0, none⟩)] w fun e w' => e = .returned (.string ⟨l.toArray⟩) /\ w' = w.drew.freeze ⟨g, 0, none⟩ l.length := by
 have hl0 : l.length ≠ 0 := by simpa using h0
 have c1 : w.drew.cell? ⟨b, 1, none⟩ = some (.slice (some ⟨g, 0, none⟩) l.length cap) := h1
 have hSD : (Builtin.unsafeSliceData_ #[23] 154 #[.slice (some ⟨g, 0, none⟩) l.length cap]).run Tryz.prog w.drew = .ok (.pointer (some ⟨g, 0, none⟩)) w.drew :=
  Lib.run_unsafeSliceData_row _ _ _ _ _ _ (by omega)
 have hUS : (Builtin.unsafeString_ #[154, 3] 9 #[.pointer (some ⟨g, 0, none⟩), .int .i64 l.length]).run Tryz.prog w.drew = .ok (.string ⟨l.toArray⟩) (w.drew.freeze ⟨g, 0, none⟩ l.length) := by
  refine Lib.run_unsafeString_row w.drew 154 3 9 5 Tryz.underlying154 (by kernel_rfl) g cur.size (by have hg' : w.drew.heap[g]? = some (.cells cur 5 (0, 0)) := hg; simp [World.shape?, hg']) l h0 (by omega) (by unfold maxLen at hcm; omega) ?_
  intro j x hx
  rw [Addr.add_lit, Nat.zero_add]
  have hg' : w.drew.heap[g]? = some (.cells cur 5 (0, 0)) := hg
  rw [Lib.cell_of_heap hg']
  exact hc j x hx
 have mixed : Tryz.prog.follows .mixedOrders = true := by kernel_rfl
 go_enter Tryz.func92, Tryz.ntmps92
 go_wp2
 go_region_o
 all_goals (go_wp2; go_ret; exact ⟨rfl, rfl⟩)
end Go.Proofs.YtcgmpcbkndpmbaaGreatDoor

end
section
open Go Go.Proofs Go.Pw Go.RowKit
namespace Go.Proofs.YtcgmpcbkndpmbaaGreatDoor
set_option maxRecDepth 4000
set_option linter.unusedVariables false
set_option linter.unusedSimpArgs false
section
variable {own : Nat -> Prop} {S0 : Base} {w0 w : World} {C : Cx} {U V : Nat -> Prop} {st : PS}
theorem setCell_row {vs : Array Value} {t : TypeId} {fr : Nat × Nat} {g i : Nat} (hg : w.heap[g]? = some (.cells vs t fr)) (v : Value) : w.setCell ⟨g, i, none⟩ v = w.setRow g (vs.setIfInBounds i v) := by
 unfold World.setCell World.setRow
 congr 1
 refine Array.ext_getElem? fun j => ?_
 simp only [Array.getElem?_modify]
 split
 ·rename_i h
  subst h
  rw [hg]
  rfl
 ·rfl
theorem Rel.toks_ (R : Rel own S0 w0 C U V st w) {T : List (Nat × Tok)} (hT : ∀ k t, lkp T k = some t -> lkp st.toks k = some t) : Rel own S0 w0 C U V { st with toks := T } w /\ Ext C C st.toks T U V U V := by
 have X : Ext C C st.toks T U V U V := ⟨SLe.refl _, fun _ _ => rfl, fun k t _ h => ⟨t, hT k t h, Nat.le_refl _, rfl, fun _ => rfl⟩, fun _ h => h, fun _ h => h⟩
 refine ⟨⟨R.frame, R.stable, fun id T' cs h => ?_, R.iter, R.hown, R.hinj, fun k t h => R.tok k t (hT k t h), fun i oi k t h1 h2 => R.tbox i oi k t h1 (hT k t h2), fun i j ti tj h1 h2 => R.tinj i j ti tj (hT _ _ h1) (hT _ _ h2), R.snew, R.sold, R.base.trans X, R.glob⟩, X⟩
 obtain ⟨vs, h1, h2, h3⟩ := R.box id T' cs h
 exact ⟨vs, h1, h2, fun i v p hv hp => ⟨(h3 i v p hv hp).1, (h3 i v p hv hp).2.ext X⟩⟩
theorem freeze_other (w : World) (g n k : Nat) (h : k ≠ g) : (w.freeze ⟨g, 0, none⟩ n).heap[k]? = w.heap[k]? := by
 unfold World.freeze
 split
 ·rfl
 ·simp [Array.getElem?_modify, Ne.symm h]
theorem freeze_cell (w : World) (g n b o : Nat) : (w.freeze ⟨g, 0, none⟩ n).cell? ⟨b, o, none⟩ = w.cell? ⟨b, o, none⟩ := by
 by_cases hb : b = g
 ·subst hb
  unfold World.freeze
  split
  ·rfl
  ·unfold World.cell?
   simp only [Array.getElem?_modify, if_true]
   cases w.heap[b]? with
   | none => rfl
   | some x => cases x <;> rfl
 ·exact World.cell?_of_block (freeze_other w g n b hb)
theorem Rel.freeze_ (R : Rel own S0 w0 C U V st w) {k : Nat} {t : Tok} (hk : lkp st.toks k = some t) {T : List (Nat × Tok)} (hT : ∀ j t, lkp T j = some t -> j ≠ k /\ lkp st.toks j = some t) (n : Nat) :
  Rel own S0 w0 C U V { st with toks := T } (w.freeze ⟨(C.τ k).1, 0, none⟩ n) /\ Ext C C st.toks T U V U V := by
 obtain ⟨R', X⟩ := Rel.toks_ R (T := T) fun j t h => (hT j t h).2
 have hown := (R.tok k t hk).2.1
 have hother : ∀ b, b ≠ (C.τ k).1 -> (w.freeze ⟨(C.τ k).1, 0, none⟩ n).heap[b]? = w.heap[b]? := fun b hb => freeze_other w _ n b hb
 have hsize : (w.freeze ⟨(C.τ k).1, 0, none⟩ n).heap.size = w.heap.size := by
  unfold World.freeze
  split
  ·rfl
  ·simp
 have hio : (w.freeze ⟨(C.τ k).1, 0, none⟩ n).os = w.os /\ (w.freeze ⟨(C.τ k).1, 0, none⟩ n).tape = w.tape /\ (w.freeze ⟨(C.τ k).1, 0, none⟩ n).output = w.output := by
  unfold World.freeze
  split <;> exact ⟨rfl, rfl, rfl⟩
 refine ⟨⟨⟨by rw [hio.1]; exact R.frame.os, by rw [hio.2.1]; exact R.frame.tape, by rw [hio.2.2]; exact R.frame.output, by rw [hsize]; exact R.frame.size, fun b hb hn => ?_⟩, fun b o v h => ?_, fun id T' cs h => ?_, fun id s pos h => ?_, fun id o h => ?_, R'.hinj, fun j t' h => ?_, R'.tbox, R'.tinj, R'.snew, R'.sold, R'.base, R'.glob⟩, X⟩
 ·rw [hother b (fun e => by subst e; rcases hown with h | h; exact hn h; omega)]
  exact R.frame.block b hb hn
 ·rw [freeze_cell]
  exact R.stable b o v h
 ·rw [hother _ (fun e => R.tbox id _ k t h hk e)]
  exact R'.box id T' cs h
 ·rw [hother _ (fun e => R.tbox id _ k t h hk e)]
  exact R.iter id s pos h
 ·rw [hsize]
  exact R.hown id o h
 ·rw [hother _ (fun e => (hT j t' h).1 (R.tinj j k t' t (hT j t' h).2 hk e))]
  exact R'.tok j t' h
end
abbrev vNP : PV := .val (.pointer none)
@[irreducible] def rowS (k : Nat) (s : ByteArray) : PV := if s.size = 0 then .val (.slice none 0 0) else .row k (encS s)
@[irreducible] def tokS (k : Nat) (e : TypeId) (s : ByteArray) : List (Nat × Tok) := if s.size = 0 then [] else [(k, ⟨e, 1, s.size⟩)]
def bldB (T : TypeId) (k : Nat) (a : PV) (s : ByteArray) (rest : List PV) : List (Nat × PObj) := [(0, .box T (a :: rowS k s :: rest))]
theorem three_of {vs : Array Value} {n : Nat} (h : vs.size = n + 2) : ∃ v0 v1 vr, vs = ⟨v0 :: v1 :: vr⟩ /\ vr.length = n := by
 cases vs with
 | mk l => match l, h with
  | v0 :: v1 :: vr, h => exact ⟨v0, v1, vr, rfl, by simpa using h⟩
theorem copy_ok {T : TypeId} {rest : List PV} (hT : Heads T (rest.length + 2)) (nx nt : Nat) (a b : PV) (TK : List (Nat × Tok)) (ha : a = vNP ∨ a = .ptr 0 0) :
  OkI Tryz.prog 106 [.ptr 0 0] ⟨[], [(0, .box T (a :: b :: rest))], TK, nx, nt⟩ (fun r st' => r = .tup [] /\ st' = ⟨[], [(0, .box T (.ptr 0 0 :: b :: rest))], TK, nx, nt⟩) := by
 refine ⟨by kernel_rfl, fun own S0 w0 w C vals R hn hr => ?_⟩
 have ho : lkp ([(0, PObj.box T (a :: b :: rest))] : List (Nat × PObj)) 0 = some (.box T (a :: b :: rest)) := by simp [lkp]
 obtain ⟨vs, hb, hs, hv⟩ := R.box 0 _ _ ho
 obtain ⟨v, rfl⟩ : ∃ v, vals = #[v] := by
  cases vals with
  | mk l => match l, hn with
   | [v], _ => exact ⟨v, rfl⟩
 obtain ⟨v0, v1, vr, rfl, hvr⟩ := three_of (n := rest.length) hs
 obtain ⟨rfl, hU⟩ := rep_ptr (hr 0 v _ rfl rfl)
 have h0 := hv 0 v0 a rfl rfl
 have hc : w.cell? ⟨C.ρ 0, 0, none⟩ = some v0 := by rw [Lib.cell_of_heap hb]; rfl
 rcases ha with rfl | rfl
 ·obtain ⟨rfl, _⟩ := rep_val h0.2
  refine (copy_fresh hT (C.ρ 0) w hc (by simp [World.shape?, hb, hvr]) (by simp [World.frozen?, hb])).mono ?_
  rintro e w' ⟨rfl, rfl⟩
  refine ⟨.tup [], _, .tuple #[], C, ⟨rfl, rfl⟩, rfl, ?_, Ext.refl _ _ _ _, .tup rfl (fun i v p hv hp => by simp at hp)⟩
  have R' := R.store (id := 0) (T := T) ho (cs' := .ptr 0 0 :: b :: rest) (vs' := ⟨.pointer (some ⟨C.ρ 0, 0, none⟩) :: v1 :: vr⟩) ⟨by simpa using hvr, fun i v p hv' hp => by
   match i with
   | 0 => simp at hv' hp; subst hv' hp; exact ⟨rfl, .ptr hU⟩
   | i + 1 => exact hv (i + 1) v p (by simpa using hv') (by simpa using hp)⟩
  rw [setCell_row hb]
  have eu : upd [(0, PObj.box T (vNP :: b :: rest))] 0 (.box T (.ptr 0 0 :: b :: rest)) = [(0, .box T (.ptr 0 0 :: b :: rest))] := by simp [upd]
  rw [<- eu]
  exact R'
 ·obtain ⟨rfl, _⟩ := rep_ptr h0.2
  refine (copy_used (C.ρ 0) w hc).mono ?_
  rintro e w' ⟨rfl, rfl⟩
  exact ⟨.tup [], _, .tuple #[], C, ⟨rfl, rfl⟩, rfl, R, Ext.refl _ _ _ _, .tup rfl (fun i v p hv hp => by simp at hp)⟩
theorem string_ok0 (T : TypeId) (s : ByteArray) (k nx nt : Nat) (a : PV) (rest : List PV) :
  OkI Tryz.prog 92 [.ptr 0 0] ⟨[], bldB T k a s rest, tokS k 5 s, nx, nt⟩ (fun r st' => r = .val (.string s) /\ st' = ⟨[], bldB T k a s rest, [], nx, nt⟩) := by
 refine ⟨by kernel_rfl, fun own S0 w0 w C vals R hn hr => ?_⟩
 have ho : lkp (bldB T k a s rest) 0 = some (.box T (a :: rowS k s :: rest)) := by simp [bldB, lkp]
 obtain ⟨vs, hb, hs, hv⟩ := R.box 0 _ _ ho
 obtain ⟨v, rfl⟩ : ∃ v, vals = #[v] := by
  cases vals with
  | mk l => match l, hn with
   | [v], _ => exact ⟨v, rfl⟩
 obtain ⟨v0, v1, vr, rfl, hvr⟩ := three_of (n := rest.length) hs
 obtain ⟨rfl, hU⟩ := rep_ptr (hr 0 v _ rfl rfl)
 have h1 := hv 1 v1 (rowS k s) rfl rfl
 have hc : w.cell? ⟨C.ρ 0, 1, none⟩ = some v1 := by rw [Lib.cell_of_heap hb]; rfl
 by_cases h0 : s.size = 0
 ·have es : s = ⟨#[]⟩ := by
   cases s with
   | mk d => congr 1; exact Array.size_eq_zero_iff.1 h0
  simp only [rowS, h0, if_true] at h1
  obtain ⟨rfl, _⟩ := rep_val h1.2
  have eT : tokS k 5 s = [] := by simp [tokS, h0]
  refine (string_nil (C.ρ 0) w hc).mono ?_
  rintro e w' ⟨rfl, rfl⟩
  rw [eT] at R ⊢
  exact ⟨.val (.string s), _, .string ⟨#[]⟩, C, ⟨rfl, rfl⟩, rfl, R.drew, Ext.refl _ _ _ _, by rw [es]; exact .frz (.val rfl)⟩
 ·have eT : tokS k 5 s = [(k, ⟨5, 1, s.size⟩)] := by simp [tokS, h0]
  simp only [rowS, h0, if_false] at h1
  rw [eT] at R h1
  have hk : lkp [(k, (⟨5, 1, s.size⟩ : Tok))] k = some ⟨5, 1, s.size⟩ := by simp [lkp]
  obtain ⟨hV, hown, ⟨cur, hcur, hcs⟩, hnc, hcm, hS⟩ := R.tok k _ hk
  have hlen : (encS s).length = s.size := by simp [encS]
  have hll : s.data.toList.length = s.size := by simp
  have hval : v1 = .slice (some ⟨(C.τ k).1, 0, none⟩) s.data.toList.length (C.τ k).2 := by
   rw [hll]
   have h2 := h1.2
   cases h2 with
   | frz h => cases h
   | row g1 g2 g3 => exact (g3 _ hk).2.2 hlen
  have hxf := rep_sl (.inr ⟨_, h1.2⟩)
  have hcells : ∀ (j : Nat) (x : UInt8), s.data.toList[j]? = some x -> cur[j]? = some (Value.int .u8 x.toNat) := by
   intro j x hx
   have hj : j < (encS s).length := by rw [hlen]; have := (List.getElem?_eq_some_iff.1 hx).1; omega
   rw [hval] at hxf
   generalize hvv : Value.slice (some ⟨(C.τ k).1, 0, none⟩) s.data.toList.length (C.τ k).2 = v at hxf
   have hxs : (encS s)[j]? = some [.val (.int .u8 x.toNat)] := by simp [encS, hx]
   cases hxf with
   | @sl A n cc sz' _ f hn' hcc hsz' hA hrr =>
    injection hvv with g1 g2 g3
    subst g1
    obtain ⟨b, o', e3, hS'⟩ := hA (by omega)
    injection e3 with e3
    injection e3 with e3 e4
    subst e3 e4
    have e5 : sz' = 1 := (hsz' _ (List.mem_of_getElem? hxs)).symm
    subst e5
    have h1 := R.stable _ _ _ (hS' j 0 (by omega) (by omega))
    rw [cell_of_row w _ _ cur 5 (0, 0) hcur] at h1
    have h2 := hrr j 0 _ _ hxs rfl
    rw [show f j 0 = Value.int .u8 x.toNat from by generalize f j 0 = u at h2; cases h2; rfl] at h1
    simpa using h1
  rw [hval] at hc
  refine (string_some (C.ρ 0) (C.τ k).1 (C.τ k).2 w s.data.toList (fun h => h0 (by rw [<- hll, h]; rfl)) (by rw [hll]; exact hnc) hcm hc cur hcur (by rw [hcs, Nat.mul_one]) hcells).mono ?_
  rintro e w' ⟨rfl, rfl⟩
  obtain ⟨R', X⟩ := Rel.freeze_ (R.drew) (k := k) hk (T := []) (fun j t h => by cases h) s.data.toList.length
  rw [eT]
  exact ⟨.val (.string s), _, .string ⟨s.data.toList.toArray⟩, C, ⟨rfl, rfl⟩, rfl, R', X, .frz (by
   have : (⟨s.data.toList.toArray⟩ : ByteArray) = s := by simp
   rw [this]; exact .val rfl)⟩
end Go.Proofs.YtcgmpcbkndpmbaaGreatDoor

end
section
open Go Go.Proofs Go.Pw Go.RowKit
namespace Go.Proofs.YtcgmpcbkndpmbaaGreatDoor
set_option maxRecDepth 4000
set_option linter.unusedVariables false
set_option linter.unusedSimpArgs false
attribute [local go_sem] Delta.val Nat.le_refl Tryz.results89 sliceLike
def bldQ (T : TypeId) (s : ByteArray) (rest : List PV) (R : PV) (r : PV) (st : PS) : Prop := r = R /\ ∃ k, k < st.nt /\ 1 <= st.nt /\ st.nx = 1 /\ st.heap = bldB T k (.ptr 0 0) s rest /\ st.toks = tokS k 5 s
theorem rowS_rm (f g : Nat -> Nat) (k : Nat) (s : ByteArray) : (rowS k s).rm f g = rowS (g k) s := by unfold rowS; split <;> rfl
theorem tokS_rm (g : Nat -> Nat) (k : Nat) (s : ByteArray) (e : TypeId) : rmK g (tokS k e s) = tokS (g k) e s := by unfold tokS; split <;> rfl
theorem rowS_lt (a b k : Nat) (s : ByteArray) (h : k < b) : (rowS k s).lt a b = true := by unfold rowS; split <;> simp [PV.lt, h]
theorem app_s0 {e : TypeId} {b tk : Nat} {st : PS} {K : Delta -> Prop} {d : PV} {t : ByteArray} (h0 : t.size = 0) : appS e b st tk K d (.val (.string t)) = (sliceLike d = true /\ K (.val d)) := by
 have hn := encS_len t
 unfold appS
 simp only
 generalize encS t = l at *
 cases l with
 | nil => rfl
 | cons y r => simp at hn; omega
theorem bld_at0 {g0 : FuncId} {T : TypeId} {s s' : ByteArray} {a' : PV} {rest as0 : List PV} {R : PV} (i k : Nat) {st : PS}
  (ok : ∀ a, (a = vNP ∨ a = .ptr 0 0) -> a.rm (rnF [i] st.nx) (rnF [k] st.nt) = a' -> OkI Tryz.prog g0 (.ptr 0 0 :: as0) ⟨[], bldB T 0 a s rest, tokS 0 5 s, 1, 1⟩ (bldQ T s' rest R))
  (hi : i < st.nx) (hk : k < st.nt) (ha : a' = vNP ∨ a' = .ptr i 0) (hrest : PV.ltL 0 0 rest = true) (has : PV.ltL 0 0 as0 = true) (hR : R.lt 0 0 = true)
  (ho : lkp st.heap i = some (.box T (a' :: rowS k s :: rest))) (ht : s.size ≠ 0 -> lkp st.toks k = some ⟨5, 1, s.size⟩) :
  OkI Tryz.prog g0 (.ptr i 0 :: as0) st (fun r st' => r = R /\ ∃ k' nt', k' < nt' /\ st.nt <= nt' /\ st' = ⟨st.env, (i, .box T (.ptr i 0 :: rowS k' s' :: rest)) :: dropH [i] st.heap, tokS k' 5 s' ++ dropK [k] st.toks, st.nx, nt'⟩) := by
 obtain ⟨a, hca, haa⟩ : ∃ a, (a = vNP ∨ a = .ptr 0 0) /\ a.rm (rnF [i] st.nx) (rnF [k] st.nt) = a' /\ a.lt 1 1 = true := by
  rcases ha with rfl | rfl
  ·exact ⟨vNP, .inl rfl, rfl, rfl⟩
  ·exact ⟨.ptr 0 0, .inr rfl, rfl, rfl⟩
 refine OkI.mono' (OkI.frameT [i] [k] (ok a hca haa.1) (by simp) (fun j hj => by rw [List.mem_singleton] at hj; subst hj; exact hi) (by simp) (fun j hj => by rw [List.mem_singleton] at hj; subst hj; exact hk) (fun e he => ?_) (fun e he => ?_) ?_ ?_) ?_
 ·simp only [bldB, List.mem_singleton] at he
  subst he
  refine ⟨Nat.zero_lt_one, ?_, ?_⟩
  ·simp only [PObj.lt, PV.ltL, haa.2, rowS_lt 1 1 0 s Nat.zero_lt_one, ltL_low (Nat.zero_le 1) (Nat.zero_le 1) rest hrest, Bool.and_self, List.length_singleton]
  ·show lkp st.heap i = _
   rw [ho, PObj.rm, PV.rmL, PV.rmL, haa.1, rowS_rm, rmL_frz rest hrest]
   rfl
 ·unfold tokS at he
  split at he
  ·cases he
  ·rename_i h0
   rw [List.mem_singleton] at he
   subst he
   exact ⟨Nat.zero_lt_one, ht h0⟩
 ·simp only [PV.ltL, PV.lt, List.length_singleton, Nat.zero_lt_one, decide_true, Bool.true_and]
  exact ltL_low (Nat.zero_le 1) (Nat.zero_le 1) as0 has
 ·rw [PV.rmL, rmL_frz as0 has]; rfl
 ·rintro r st' ⟨r0, s0, ⟨rfl, k0, h1, h2, h3, h4, h5⟩, rfl, rfl⟩
  refine ⟨rm_frz r0 hR, rnF [k] st.nt k0, s0.nt - 1 + st.nt, ?_, by omega, ?_⟩
  ·cases k0 with
   | zero => show k < _; omega
   | succ n => rw [rnF_high (l := [k]) (n + 1) (by simp)]; simp only [List.length_singleton]; omega
  ·rw [h3, h4, h5, tokS_rm]
   simp only [bldB, rmH, PObj.rm, PV.rmL, rowS_rm, rmL_frz rest hrest, List.length_singleton, List.cons_append, List.nil_append]
   have : 1 - 1 + st.nx = st.nx := by omega
   rw [this]
   rfl
theorem bld_at {g0 : FuncId} {T : TypeId} {s s' : ByteArray} {a' : PV} {rest as0 : List PV} {R : PV} (i k : Nat) {st : PS}
  (ok : ∀ a, (a = vNP ∨ a = .ptr 0 0) -> OkI Tryz.prog g0 (.ptr 0 0 :: as0) ⟨[], bldB T 0 a s rest, tokS 0 5 s, 1, 1⟩ (bldQ T s' rest R))
  (hi : i < st.nx) (hk : k < st.nt) (ha : a' = vNP ∨ a' = .ptr i 0) (hrest : PV.ltL 0 0 rest = true) (has : PV.ltL 0 0 as0 = true) (hR : R.lt 0 0 = true)
  (ho : lkp st.heap i = some (.box T (a' :: rowS k s :: rest))) (ht : s.size ≠ 0 -> lkp st.toks k = some ⟨5, 1, s.size⟩) :
  OkI Tryz.prog g0 (.ptr i 0 :: as0) st (fun r st' => r = R /\ ∃ k' nt', k' < nt' /\ st.nt <= nt' /\ st' = ⟨st.env, (i, .box T (.ptr i 0 :: rowS k' s' :: rest)) :: dropH [i] st.heap, tokS k' 5 s' ++ dropK [k] st.toks, st.nx, nt'⟩) :=
 bld_at0 i k (fun a h _ => ok a h) hi hk ha hrest has hR ho ht
theorem string_at {T : TypeId} {s : ByteArray} {a' : PV} {rest : List PV} (i k : Nat) {st : PS} (hi : i < st.nx) (hk : k < st.nt) (ha : a' = vNP ∨ a' = .ptr i 0) (hrest : PV.ltL 0 0 rest = true)
  (ho : lkp st.heap i = some (.box T (a' :: rowS k s :: rest))) (ht : s.size ≠ 0 -> lkp st.toks k = some ⟨5, 1, s.size⟩) :
  OkI Tryz.prog 92 [.ptr i 0] st (fun r st' => r = vS s /\ st' = ⟨st.env, (i, .box T (a' :: rowS k s :: rest)) :: dropH [i] st.heap, dropK [k] st.toks, st.nx, st.nt⟩) := by
 obtain ⟨a, hca, haa⟩ : ∃ a, (a = vNP ∨ a = .ptr 0 0) /\ a.rm (rnF [i] st.nx) (rnF [k] st.nt) = a' /\ a.lt 1 1 = true := by
  rcases ha with rfl | rfl
  ·exact ⟨vNP, .inl rfl, rfl, rfl⟩
  ·exact ⟨.ptr 0 0, .inr rfl, rfl, rfl⟩
 refine OkI.mono' (OkI.frameT [i] [k] (string_ok0 T s 0 1 1 a rest) (by simp) (fun j hj => by rw [List.mem_singleton] at hj; subst hj; exact hi) (by simp) (fun j hj => by rw [List.mem_singleton] at hj; subst hj; exact hk) (fun e he => ?_) (fun e he => ?_) rfl rfl) ?_
 ·simp only [bldB, List.mem_singleton] at he
  subst he
  refine ⟨Nat.zero_lt_one, ?_, ?_⟩
  ·simp only [PObj.lt, PV.ltL, haa.2, rowS_lt 1 1 0 s Nat.zero_lt_one, ltL_low (Nat.zero_le 1) (Nat.zero_le 1) rest hrest, Bool.and_self, List.length_singleton]
  ·show lkp st.heap i = _
   rw [ho, PObj.rm, PV.rmL, PV.rmL, haa.1, rowS_rm, rmL_frz rest hrest]
   rfl
 ·unfold tokS at he
  split at he
  ·cases he
  ·rename_i h0
   rw [List.mem_singleton] at he
   subst he
   exact ⟨Nat.zero_lt_one, ht h0⟩
 ·rintro r st' ⟨r0, s0, ⟨rfl, rfl⟩, rfl, rfl⟩
  refine ⟨rfl, ?_⟩
  simp only [bldB, rmH, rmK, PObj.rm, PV.rmL, rowS_rm, haa.1, rmL_frz rest hrest, List.length_singleton, List.cons_append, List.nil_append]
  have : 1 - 1 + st.nx = st.nx := by omega
  have h2 : 1 - 1 + st.nt = st.nt := by omega
  rw [this, h2]
  rfl
set_option maxHeartbeats 4000000 in
theorem writeS_ok {T : TypeId} {rest : List PV} (hT : Heads T (rest.length + 2)) (hrest : PV.ltL 0 0 rest = true) (s t : ByteArray) (hl : s.size + t.size <= 1000000) (a : PV) (ha : a = vNP ∨ a = .ptr 0 0) :
  OkI Tryz.prog 89 [.ptr 0 0, vS t] ⟨[], bldB T 0 a s rest, tokS 0 5 s, 1, 1⟩ (bldQ T (s ++ t) rest (.tup [vI t.size, .val .nilIface])) := by
 refine OkI.of_pwp (by kernel_rfl) Tryz.func89 rfl (by kernel_rfl) (by kernel_rfl) ?_
 have hst : (s ++ t).size = s.size + t.size := by simp
 have hlt : ∀ (a b : Nat), PV.ltL a b rest = true := fun a b => ltL_low (Nat.zero_le a) (Nat.zero_le b) rest hrest
 by_cases ht : t.size = 0
 ·have et : s ++ t = s := by
   have : t = ByteArray.empty := by
    cases t with
    | mk d => congr 1; exact Array.size_eq_zero_iff.1 ht
   rw [this]
   simp
  by_cases hs : s.size = 0
  ·simp only [bldB, rowS, tokS, hs, if_true]
   simp (implicitDefEqProofs := false) (disch := omega) only [go_sem, simprocAttr, app_s0]
   refine CallOk.ofI (copy_ok hT _ _ _ _ [] ha) rfl rfl rfl rfl ?_
   rintro r st1 ⟨rfl, rfl⟩
   simp (implicitDefEqProofs := false) (disch := omega) only [go_sem, simprocAttr, app_s0]
   rw [et]
   refine ⟨⟨[], bldB T 0 (.ptr 0 0) s rest, tokS 0 5 s, 1, 1⟩, ⟨rfl, 0, by simp only; omega, by simp only; omega, rfl, rfl, rfl⟩, ?_⟩
   simp only [bldB, rowS, tokS, hs, if_true]
   constructor <;> simp only [go_sem, simprocAttr, decide_eq_true_eq, ite_self, hlt] <;> try ((repeat' apply And.intro) <;> first | rfl | omega | (congr 3; omega) | (congr 2; omega))
  ·simp only [bldB, rowS, tokS, hs, if_false]
   simp (implicitDefEqProofs := false) (disch := omega) only [go_sem, simprocAttr, app_s0]
   refine CallOk.ofI (copy_ok hT _ _ _ _ _ ha) rfl rfl rfl rfl ?_
   rintro r st1 ⟨rfl, rfl⟩
   simp (implicitDefEqProofs := false) (disch := omega) only [go_sem, simprocAttr, app_s0]
   rw [et]
   refine ⟨⟨[], bldB T 0 (.ptr 0 0) s rest, tokS 0 5 s, 1, 1⟩, ⟨rfl, 0, by simp only; omega, by simp only; omega, rfl, rfl, rfl⟩, ?_⟩
   simp only [bldB, rowS, tokS, hs, if_false]
   constructor <;> simp only [go_sem, simprocAttr, decide_eq_true_eq, ite_self, hlt] <;> try ((repeat' apply And.intro) <;> first | rfl | omega | (congr 3; omega) | (congr 2; omega))
 have hne : ¬ (s ++ t).size = 0 := by omega
 by_cases hs : s.size = 0
 ·have es : s ++ t = t := by
   have : s = ByteArray.empty := by
    cases s with
    | mk d => congr 1; exact Array.size_eq_zero_iff.1 hs
   rw [this]
   simp
  simp only [bldB, rowS, tokS, hs, if_true]
  simp (implicitDefEqProofs := false) (disch := omega) only [go_sem, simprocAttr, app_s0]
  refine CallOk.ofI (copy_ok hT _ _ _ _ [] ha) rfl rfl rfl rfl ?_
  rintro r st1 ⟨rfl, rfl⟩
  simp (implicitDefEqProofs := false) (disch := omega) only [go_sem, simprocAttr, app_s0]
  rw [es]
  refine ⟨⟨[], bldB T (1 + 2 + 1 + 2 + 6) (.ptr 0 0) t rest, tokS (1 + 2 + 1 + 2 + 6) 5 t, 1, 1 + 2 + 1 + 2 + 10⟩, ⟨rfl, 1 + 2 + 1 + 2 + 6, by simp only; omega, by simp only; omega, rfl, rfl, rfl⟩, ?_⟩
  simp only [bldB, rowS, tokS, ht, if_false]
  constructor <;> simp only [go_sem, simprocAttr, decide_eq_true_eq, ite_self, hlt] <;> try ((repeat' apply And.intro) <;> first | rfl | omega | (congr 3; omega) | (congr 2; omega))
 ·simp only [bldB, rowS, tokS, hs, if_false]
  simp (implicitDefEqProofs := false) (disch := omega) only [go_sem, simprocAttr, app_s0]
  refine CallOk.ofI (copy_ok hT _ _ _ _ _ ha) rfl rfl rfl rfl ?_
  rintro r st1 ⟨rfl, rfl⟩
  simp (implicitDefEqProofs := false) (disch := omega) only [go_sem, simprocAttr, app_s0]
  refine ⟨⟨[], bldB T 0 (.ptr 0 0) (s ++ t) rest, tokS 0 5 (s ++ t), 1, 1⟩, ⟨rfl, 0, by simp only; omega, by simp only; omega, rfl, rfl, rfl⟩, ?_⟩
  simp only [bldB, rowS, tokS, hne, if_false]
  simp only [hst]
  constructor <;> simp only [go_sem, simprocAttr, decide_eq_true_eq, ite_self, hlt] <;> try ((repeat' apply And.intro) <;> first | rfl | omega | (congr 3; omega) | (congr 2; omega))
end Go.Proofs.YtcgmpcbkndpmbaaGreatDoor

end
section
open Go Go.Proofs Go.Pw Go.RowKit
namespace Go.Proofs.YtcgmpcbkndpmbaaGreatDoor
set_option maxRecDepth 4000
set_option linter.unusedVariables false
set_option linter.unusedSimpArgs false
def bldP (T : TypeId) (i k : Nat) (st : PS) (s' : ByteArray) (rest : List PV) (R : PV) (r : PV) (st' : PS) : Prop := r = R /\ ∃ k' nt', k' < nt' /\ st.nt <= nt' /\ st' = ⟨st.env, (i, .box T (.ptr i 0 :: rowS k' s' :: rest)) :: dropH [i] st.heap, tokS k' 5 s' ++ dropK [k] st.toks, st.nx, nt'⟩
theorem writeS_at {T : TypeId} {rest : List PV} (hT : Heads T (rest.length + 2)) (hrest : PV.ltL 0 0 rest = true) {s t : ByteArray} {a' : PV} (i k : Nat) {st : PS} (hl : s.size + t.size <= 1000000) (hi : i < st.nx) (hk : k < st.nt) (ha : a' = vNP ∨ a' = .ptr i 0)
  (ho : lkp st.heap i = some (.box T (a' :: rowS k s :: rest))) (ht : s.size ≠ 0 -> lkp st.toks k = some ⟨5, 1, s.size⟩) : OkI Tryz.prog 89 [.ptr i 0, vS t] st (bldP T i k st (s ++ t) rest (.tup [vI t.size, .val .nilIface])) :=
 bld_at i k (writeS_ok hT hrest s t hl) hi hk ha hrest rfl rfl ho ht
end Go.Proofs.YtcgmpcbkndpmbaaGreatDoor

end
