import Derived.Test.YtahgjolokkfhjaaDoorProg
import Derived.Test.YtahgjolokkfhjaaDoorGS3
/-
  The types of this seat's program: sizes, zero values, the rules by which their operations are rewritten.
-/
namespace Go.Proofs.YtahgjolokkfhjaaDoor
open Go Go.Pw
set_option linter.unusedVariables false
variable {dr : Bool} {st : PS} {id tk : Nat} {d : Option Tmp} {ty : TypeId} {pos : String} {af : Array Edge} {g : Option (Nat × Bool)} {x y : Operand}
set_option maxRecDepth 4000
theorem z1 : zeroOf? Tryd.prog 1 = some (.nilFunc) := by kernel_rfl
theorem ag2 : aggT Tryd.prog 2 = some false := by kernel_rfl
theorem sz2 : sizeOf? Tryd.prog 2 = some 1 := by kernel_rfl
theorem z2 : zeroOf? Tryd.prog 2 = some (.int .i64 0) := by kernel_rfl
theorem by2 : bytesOf? Tryd.prog 2 = some 8 := by kernel_rfl
theorem ag3 : aggT Tryd.prog 3 = some false := by kernel_rfl
theorem sz3 : sizeOf? Tryd.prog 3 = some 1 := by kernel_rfl
theorem z3 : zeroOf? Tryd.prog 3 = some (.int .i64 0) := by kernel_rfl
theorem by3 : bytesOf? Tryd.prog 3 = some 8 := by kernel_rfl
theorem ag4 : aggT Tryd.prog 4 = some false := by kernel_rfl
theorem sz4 : sizeOf? Tryd.prog 4 = some 1 := by kernel_rfl
theorem z4 : zeroOf? Tryd.prog 4 = some (.bool false) := by kernel_rfl
theorem by4 : bytesOf? Tryd.prog 4 = some 1 := by kernel_rfl
theorem ag5 : aggT Tryd.prog 5 = some false := by kernel_rfl
theorem sz5 : sizeOf? Tryd.prog 5 = some 1 := by kernel_rfl
theorem z5 : zeroOf? Tryd.prog 5 = some (.int .u8 0) := by kernel_rfl
theorem by5 : bytesOf? Tryd.prog 5 = some 1 := by kernel_rfl
theorem ag9 : aggT Tryd.prog 9 = some false := by kernel_rfl
theorem sz9 : sizeOf? Tryd.prog 9 = some 1 := by kernel_rfl
theorem z9 : zeroOf? Tryd.prog 9 = some (.string ByteArray.empty) := by kernel_rfl
theorem by9 : bytesOf? Tryd.prog 9 = some 16 := by kernel_rfl
theorem ag20 : aggT Tryd.prog 20 = some false := by kernel_rfl
theorem sz20 : sizeOf? Tryd.prog 20 = some 1 := by kernel_rfl
theorem z20 : zeroOf? Tryd.prog 20 = some (.nilIface) := by kernel_rfl
theorem ag21 : aggT Tryd.prog 21 = some false := by kernel_rfl
theorem sz21 : sizeOf? Tryd.prog 21 = some 1 := by kernel_rfl
theorem z21 : zeroOf? Tryd.prog 21 = some (.int .i32 0) := by kernel_rfl
theorem by21 : bytesOf? Tryd.prog 21 = some 4 := by kernel_rfl
theorem ag22 : aggT Tryd.prog 22 = some false := by kernel_rfl
theorem sz22 : sizeOf? Tryd.prog 22 = some 1 := by kernel_rfl
theorem z22 : zeroOf? Tryd.prog 22 = some (.slice none 0 0) := by kernel_rfl
theorem by22 : bytesOf? Tryd.prog 22 = some 24 := by kernel_rfl
theorem ag23 : aggT Tryd.prog 23 = some false := by kernel_rfl
theorem sz23 : sizeOf? Tryd.prog 23 = some 1 := by kernel_rfl
theorem z23 : zeroOf? Tryd.prog 23 = some (.slice none 0 0) := by kernel_rfl
theorem by23 : bytesOf? Tryd.prog 23 = some 24 := by kernel_rfl
theorem ag26 : aggT Tryd.prog 26 = some false := by kernel_rfl
theorem sz26 : sizeOf? Tryd.prog 26 = some 1 := by kernel_rfl
theorem z26 : zeroOf? Tryd.prog 26 = some (.slice none 0 0) := by kernel_rfl
theorem by26 : bytesOf? Tryd.prog 26 = some 24 := by kernel_rfl
theorem ag28 : aggT Tryd.prog 28 = some true := by kernel_rfl
theorem sz28 : sizeOf? Tryd.prog 28 = some 6 := by kernel_rfl
theorem z28 : zeroOf? Tryd.prog 28 = some (.agg #[.int .i64 0, .bool false, .int .i64 0, .string ByteArray.empty, .slice none 0 0, .slice none 0 0]) := by kernel_rfl
theorem by28 : bytesOf? Tryd.prog 28 = some 88 := by kernel_rfl
theorem ag30 : aggT Tryd.prog 30 = some false := by kernel_rfl
theorem sz30 : sizeOf? Tryd.prog 30 = some 1 := by kernel_rfl
theorem z30 : zeroOf? Tryd.prog 30 = some (.slice none 0 0) := by kernel_rfl
theorem by30 : bytesOf? Tryd.prog 30 = some 24 := by kernel_rfl
theorem ag32 : aggT Tryd.prog 32 = some true := by kernel_rfl
theorem sz32 : sizeOf? Tryd.prog 32 = some 6 := by kernel_rfl
theorem z32 : zeroOf? Tryd.prog 32 = some (.agg #[.int .i64 0, .bool false, .int .i64 0, .string ByteArray.empty, .slice none 0 0, .slice none 0 0]) := by kernel_rfl
theorem by32 : bytesOf? Tryd.prog 32 = some 88 := by kernel_rfl
theorem ag33 : aggT Tryd.prog 33 = some false := by kernel_rfl
theorem sz33 : sizeOf? Tryd.prog 33 = some 1 := by kernel_rfl
theorem z33 : zeroOf? Tryd.prog 33 = some (.int .i64 0) := by kernel_rfl
theorem by33 : bytesOf? Tryd.prog 33 = some 8 := by kernel_rfl
theorem ag42 : aggT Tryd.prog 42 = some false := by kernel_rfl
theorem sz42 : sizeOf? Tryd.prog 42 = some 1 := by kernel_rfl
theorem z42 : zeroOf? Tryd.prog 42 = some (.slice none 0 0) := by kernel_rfl
theorem by42 : bytesOf? Tryd.prog 42 = some 24 := by kernel_rfl
theorem z46 : zeroOf? Tryd.prog 46 = some (.nilFunc) := by kernel_rfl
theorem ag49 : aggT Tryd.prog 49 = some true := by kernel_rfl
theorem sz49 : sizeOf? Tryd.prog 49 = some 7 := by kernel_rfl
theorem z49 : zeroOf? Tryd.prog 49 = some (.agg #[.slice none 0 0, .int .i64 0, .bool false, .int .i64 0, .string ByteArray.empty, .slice none 0 0, .slice none 0 0]) := by kernel_rfl
theorem by49 : bytesOf? Tryd.prog 49 = some 112 := by kernel_rfl
theorem z51 : zeroOf? Tryd.prog 51 = some (.nilFunc) := by kernel_rfl
theorem ag52 : aggT Tryd.prog 52 = some false := by kernel_rfl
theorem sz52 : sizeOf? Tryd.prog 52 = some 1 := by kernel_rfl
theorem z52 : zeroOf? Tryd.prog 52 = some (.int .u16 0) := by kernel_rfl
theorem by52 : bytesOf? Tryd.prog 52 = some 2 := by kernel_rfl
theorem z53 : zeroOf? Tryd.prog 53 = some (.agg #[.int .u16 0, .slice none 0 0]) := by kernel_rfl
theorem ag54 : aggT Tryd.prog 54 = some true := by kernel_rfl
theorem sz54 : sizeOf? Tryd.prog 54 = some 2 := by kernel_rfl
theorem z54 : zeroOf? Tryd.prog 54 = some (.agg #[.int .u16 0, .slice none 0 0]) := by kernel_rfl
theorem by54 : bytesOf? Tryd.prog 54 = some 32 := by kernel_rfl
theorem ag59 : aggT Tryd.prog 59 = some true := by kernel_rfl
theorem sz59 : sizeOf? Tryd.prog 59 = some 2 := by kernel_rfl
theorem z59 : zeroOf? Tryd.prog 59 = some (.agg #[.int .u16 0, .int .u16 0]) := by kernel_rfl
theorem by59 : bytesOf? Tryd.prog 59 = some 4 := by kernel_rfl
theorem ag67 : aggT Tryd.prog 67 = some false := by kernel_rfl
theorem sz67 : sizeOf? Tryd.prog 67 = some 1 := by kernel_rfl
theorem z67 : zeroOf? Tryd.prog 67 = some (.nilFunc) := by kernel_rfl
theorem ag71 : aggT Tryd.prog 71 = some false := by kernel_rfl
theorem sz71 : sizeOf? Tryd.prog 71 = some 1 := by kernel_rfl
theorem z71 : zeroOf? Tryd.prog 71 = some (.slice none 0 0) := by kernel_rfl
theorem by71 : bytesOf? Tryd.prog 71 = some 24 := by kernel_rfl
theorem ag73 : aggT Tryd.prog 73 = some true := by kernel_rfl
theorem sz73 : sizeOf? Tryd.prog 73 = some 5 := by kernel_rfl
theorem z73 : zeroOf? Tryd.prog 73 = some (.agg #[.int .u8 0, .int .i64 0, .string ByteArray.empty, .slice none 0 0, .slice none 0 0]) := by kernel_rfl
theorem by73 : bytesOf? Tryd.prog 73 = some 80 := by kernel_rfl
theorem z75 : zeroOf? Tryd.prog 75 = some (.nilFunc) := by kernel_rfl
theorem z76 : zeroOf? Tryd.prog 76 = some (.nilFunc) := by kernel_rfl
theorem z80 : zeroOf? Tryd.prog 80 = some (.nilFunc) := by kernel_rfl
theorem ag81 : aggT Tryd.prog 81 = some false := by kernel_rfl
theorem sz81 : sizeOf? Tryd.prog 81 = some 1 := by kernel_rfl
theorem z81 : zeroOf? Tryd.prog 81 = some (.slice none 0 0) := by kernel_rfl
theorem by81 : bytesOf? Tryd.prog 81 = some 24 := by kernel_rfl
theorem ag83 : aggT Tryd.prog 83 = some true := by kernel_rfl
theorem sz83 : sizeOf? Tryd.prog 83 = some 2 := by kernel_rfl
theorem z83 : zeroOf? Tryd.prog 83 = some (.agg #[.bool false, .slice none 0 0]) := by kernel_rfl
theorem by83 : bytesOf? Tryd.prog 83 = some 32 := by kernel_rfl
theorem z85 : zeroOf? Tryd.prog 85 = some (.nilFunc) := by kernel_rfl
theorem ag87 : aggT Tryd.prog 87 = some false := by kernel_rfl
theorem sz87 : sizeOf? Tryd.prog 87 = some 1 := by kernel_rfl
theorem z87 : zeroOf? Tryd.prog 87 = some (.pointer none) := by kernel_rfl
theorem by87 : bytesOf? Tryd.prog 87 = some 8 := by kernel_rfl
theorem ag88 : aggT Tryd.prog 88 = some false := by kernel_rfl
theorem sz88 : sizeOf? Tryd.prog 88 = some 1 := by kernel_rfl
theorem z88 : zeroOf? Tryd.prog 88 = some (.nilFunc) := by kernel_rfl
theorem ag106 : aggT Tryd.prog 106 = some false := by kernel_rfl
theorem sz106 : sizeOf? Tryd.prog 106 = some 1 := by kernel_rfl
theorem z106 : zeroOf? Tryd.prog 106 = some (.nilIface) := by kernel_rfl
theorem by106 : bytesOf? Tryd.prog 106 = some 16 := by kernel_rfl
theorem ag113 : aggT Tryd.prog 113 = some false := by kernel_rfl
theorem sz113 : sizeOf? Tryd.prog 113 = some 1 := by kernel_rfl
theorem z113 : zeroOf? Tryd.prog 113 = some (.nilFunc) := by kernel_rfl
theorem ag123 : aggT Tryd.prog 123 = some false := by kernel_rfl
theorem sz123 : sizeOf? Tryd.prog 123 = some 1 := by kernel_rfl
theorem z123 : zeroOf? Tryd.prog 123 = some (.int .u64 0) := by kernel_rfl
theorem by123 : bytesOf? Tryd.prog 123 = some 8 := by kernel_rfl
theorem z127 : zeroOf? Tryd.prog 127 = some (.nilFunc) := by kernel_rfl
theorem ag132 : aggT Tryd.prog 132 = some false := by kernel_rfl
theorem sz132 : sizeOf? Tryd.prog 132 = some 1 := by kernel_rfl
theorem z132 : zeroOf? Tryd.prog 132 = some (.pointer none) := by kernel_rfl
theorem by132 : bytesOf? Tryd.prog 132 = some 8 := by kernel_rfl
theorem ag133 : aggT Tryd.prog 133 = some true := by kernel_rfl
theorem sz133 : sizeOf? Tryd.prog 133 = some 5 := by kernel_rfl
theorem z133 : zeroOf? Tryd.prog 133 = some (.agg #[.int .i64 0, .int .i64 0, .int .i64 0, .int .i64 0, .int .i64 0]) := by kernel_rfl
theorem by133 : bytesOf? Tryd.prog 133 = some 40 := by kernel_rfl
theorem ag136 : aggT Tryd.prog 136 = some false := by kernel_rfl
theorem sz136 : sizeOf? Tryd.prog 136 = some 1 := by kernel_rfl
theorem z136 : zeroOf? Tryd.prog 136 = some (.int .i64 0) := by kernel_rfl
theorem by136 : bytesOf? Tryd.prog 136 = some 8 := by kernel_rfl
theorem ag139 : aggT Tryd.prog 139 = some false := by kernel_rfl
theorem sz139 : sizeOf? Tryd.prog 139 = some 1 := by kernel_rfl
theorem z139 : zeroOf? Tryd.prog 139 = some (.pointer none) := by kernel_rfl
theorem by139 : bytesOf? Tryd.prog 139 = some 8 := by kernel_rfl
theorem z143 : zeroOf? Tryd.prog 143 = some (.nilFunc) := by kernel_rfl
theorem ag152 : aggT Tryd.prog 152 = some false := by kernel_rfl
theorem sz152 : sizeOf? Tryd.prog 152 = some 1 := by kernel_rfl
theorem z152 : zeroOf? Tryd.prog 152 = some (.int .u64 0) := by kernel_rfl
theorem by152 : bytesOf? Tryd.prog 152 = some 8 := by kernel_rfl
theorem ag156 : aggT Tryd.prog 156 = some true := by kernel_rfl
theorem sz156 : sizeOf? Tryd.prog 156 = some 3 := by kernel_rfl
theorem z156 : zeroOf? Tryd.prog 156 = some (.agg #[.string ByteArray.empty, .string ByteArray.empty, .nilIface]) := by kernel_rfl
theorem by156 : bytesOf? Tryd.prog 156 = some 48 := by kernel_rfl
theorem ag158 : aggT Tryd.prog 158 = some true := by kernel_rfl
theorem sz158 : sizeOf? Tryd.prog 158 = some 24 := by kernel_rfl
theorem z158 : zeroOf? Tryd.prog 158 = some (.agg #[.int .u8 0, .int .u8 0, .int .u8 0, .int .u8 0, .int .u8 0, .int .u8 0, .int .u8 0, .int .u8 0, .int .u8 0, .int .u8 0, .int .u8 0, .int .u8 0, .int .u8 0, .int .u8 0, .int .u8 0, .int .u8 0, .int .u8 0, .int .u8 0, .int .u8 0, .int .u8 0, .int .u8 0, .int .u8 0, .int .u8 0, .int .u8 0]) := by kernel_rfl
theorem by158 : bytesOf? Tryd.prog 158 = some 24 := by kernel_rfl
theorem ag165 : aggT Tryd.prog 165 = some false := by kernel_rfl
theorem sz165 : sizeOf? Tryd.prog 165 = some 1 := by kernel_rfl
theorem z165 : zeroOf? Tryd.prog 165 = some (.pointer none) := by kernel_rfl
theorem by165 : bytesOf? Tryd.prog 165 = some 8 := by kernel_rfl
theorem ag167 : aggT Tryd.prog 167 = some true := by kernel_rfl
theorem sz167 : sizeOf? Tryd.prog 167 = some 1 := by kernel_rfl
theorem z167 : zeroOf? Tryd.prog 167 = some (.agg #[.string ByteArray.empty]) := by kernel_rfl
theorem by167 : bytesOf? Tryd.prog 167 = some 16 := by kernel_rfl
theorem z168 : zeroOf? Tryd.prog 168 = some (.nilFunc) := by kernel_rfl
theorem ag169 : aggT Tryd.prog 169 = some true := by kernel_rfl
theorem sz169 : sizeOf? Tryd.prog 169 = some 20 := by kernel_rfl
theorem z169 : zeroOf? Tryd.prog 169 = some (.agg #[.int .u64 0, .int .u64 0, .int .u64 0, .int .u64 0, .int .u64 0, .int .u64 0, .int .u64 0, .int .u64 0, .int .u64 0, .int .u64 0, .int .u64 0, .int .u64 0, .int .u64 0, .int .u64 0, .int .u64 0, .int .u64 0, .int .u64 0, .int .u64 0, .int .u64 0, .int .u64 0]) := by kernel_rfl
theorem by169 : bytesOf? Tryd.prog 169 = some 160 := by kernel_rfl
theorem ag170 : aggT Tryd.prog 170 = some false := by kernel_rfl
theorem sz170 : sizeOf? Tryd.prog 170 = some 1 := by kernel_rfl
theorem z170 : zeroOf? Tryd.prog 170 = some (.int .u32 0) := by kernel_rfl
theorem by170 : bytesOf? Tryd.prog 170 = some 4 := by kernel_rfl
theorem z175 : zeroOf? Tryd.prog 175 = some (.agg #[.int .u8 0, .int .u8 0]) := by kernel_rfl
theorem ag180 : aggT Tryd.prog 180 = some true := by kernel_rfl
theorem sz180 : sizeOf? Tryd.prog 180 = some 32 := by kernel_rfl
theorem z180 : zeroOf? Tryd.prog 180 = some (.agg #[.int .u8 0, .int .u8 0, .int .u8 0, .int .u8 0, .int .u8 0, .int .u8 0, .int .u8 0, .int .u8 0, .int .u8 0, .int .u8 0, .int .u8 0, .int .u8 0, .int .u8 0, .int .u8 0, .int .u8 0, .int .u8 0, .int .u8 0, .int .u8 0, .int .u8 0, .int .u8 0, .int .u8 0, .int .u8 0, .int .u8 0, .int .u8 0, .int .u8 0, .int .u8 0, .int .u8 0, .int .u8 0, .int .u8 0, .int .u8 0, .int .u8 0, .int .u8 0]) := by kernel_rfl
theorem by180 : bytesOf? Tryd.prog 180 = some 32 := by kernel_rfl
theorem ag181 : aggT Tryd.prog 181 = some true := by kernel_rfl
theorem sz181 : sizeOf? Tryd.prog 181 = some 64 := by kernel_rfl
theorem z181 : zeroOf? Tryd.prog 181 = some (.agg #[.int .u8 0, .int .u8 0, .int .u8 0, .int .u8 0, .int .u8 0, .int .u8 0, .int .u8 0, .int .u8 0, .int .u8 0, .int .u8 0, .int .u8 0, .int .u8 0, .int .u8 0, .int .u8 0, .int .u8 0, .int .u8 0, .int .u8 0, .int .u8 0, .int .u8 0, .int .u8 0, .int .u8 0, .int .u8 0, .int .u8 0, .int .u8 0, .int .u8 0, .int .u8 0, .int .u8 0, .int .u8 0, .int .u8 0, .int .u8 0, .int .u8 0, .int .u8 0, .int .u8 0, .int .u8 0, .int .u8 0, .int .u8 0, .int .u8 0, .int .u8 0, .int .u8 0, .int .u8 0, .int .u8 0, .int .u8 0, .int .u8 0, .int .u8 0, .int .u8 0, .int .u8 0, .int .u8 0, .int .u8 0, .int .u8 0, .int .u8 0, .int .u8 0, .int .u8 0, .int .u8 0, .int .u8 0, .int .u8 0, .int .u8 0, .int .u8 0, .int .u8 0, .int .u8 0, .int .u8 0, .int .u8 0, .int .u8 0, .int .u8 0, .int .u8 0]) := by kernel_rfl
theorem by181 : bytesOf? Tryd.prog 181 = some 64 := by kernel_rfl
-- 1: func()
-- 2: int64
theorem rdo2 {cs : List PV} {off : Nat} : readCells Tryd.prog 2 cs off = cs[off]? := rd_one ag2
theorem alc2 {K : PS → Prop} : stepN dr Tryd.prog ⟨d, .alloc 2, ty, pos, af, g⟩ st id tk K = K (PS.put { st with heap := (id, .box 2 [.val (.int .i64 0)]) :: st.heap } d (.ptr id 0)) := s_allocC z2 rfl rfl
theorem mki2 {K : PS → Prop} : stepN dr Tryd.prog ⟨d, .makeInterface 2 x, ty, pos, af, g⟩ st id tk K = bindO (st.ev x) fun p => K (st.put d (.iface 2 p)) := s_makeIface Tryd.underlying2 rfl
-- 3: int
theorem rdo3 {cs : List PV} {off : Nat} : readCells Tryd.prog 3 cs off = cs[off]? := rd_one ag3
theorem alc3 {K : PS → Prop} : stepN dr Tryd.prog ⟨d, .alloc 3, ty, pos, af, g⟩ st id tk K = K (PS.put { st with heap := (id, .box 3 [.val (.int .i64 0)]) :: st.heap } d (.ptr id 0)) := s_allocC z3 rfl rfl
theorem mki3 {K : PS → Prop} : stepN dr Tryd.prog ⟨d, .makeInterface 3 x, ty, pos, af, g⟩ st id tk K = bindO (st.ev x) fun p => K (st.put d (.iface 3 p)) := s_makeIface Tryd.underlying3 rfl
-- 4: bool
theorem rdo4 {cs : List PV} {off : Nat} : readCells Tryd.prog 4 cs off = cs[off]? := rd_one ag4
theorem alc4 {K : PS → Prop} : stepN dr Tryd.prog ⟨d, .alloc 4, ty, pos, af, g⟩ st id tk K = K (PS.put { st with heap := (id, .box 4 [.val (.bool false)]) :: st.heap } d (.ptr id 0)) := s_allocC z4 rfl rfl
-- 5: uint8
theorem rdo5 {cs : List PV} {off : Nat} : readCells Tryd.prog 5 cs off = cs[off]? := rd_one ag5
theorem alc5 {K : PS → Prop} : stepN dr Tryd.prog ⟨d, .alloc 5, ty, pos, af, g⟩ st id tk K = K (PS.put { st with heap := (id, .box 5 [.val (.int .u8 0)]) :: st.heap } d (.ptr id 0)) := s_allocC z5 rfl rfl
theorem mki5 {K : PS → Prop} : stepN dr Tryd.prog ⟨d, .makeInterface 5 x, ty, pos, af, g⟩ st id tk K = bindO (st.ev x) fun p => K (st.put d (.iface 5 p)) := s_makeIface Tryd.underlying5 rfl
-- 9: string
theorem rdo9 {cs : List PV} {off : Nat} : readCells Tryd.prog 9 cs off = cs[off]? := rd_one ag9
theorem alc9 {K : PS → Prop} : stepN dr Tryd.prog ⟨d, .alloc 9, ty, pos, af, g⟩ st id tk K = K (PS.put { st with heap := (id, .box 9 [.val (.string ByteArray.empty)]) :: st.heap } d (.ptr id 0)) := s_allocC z9 rfl rfl
theorem mki9 {K : PS → Prop} : stepN dr Tryd.prog ⟨d, .makeInterface 9 x, ty, pos, af, g⟩ st id tk K = bindO (st.ev x) fun p => K (st.put d (.iface 9 p)) := s_makeIface Tryd.underlying9 rfl
theorem rng9 {K : PS → Prop} : stepN dr Tryd.prog ⟨d, .range 9 x, ty, pos, af, g⟩ st id tk K = bindO (st.ev x) (rngP id d st K) := s_range Tryd.underlying9
theorem lns9 {K : PV → Prop} : lenK Tryd.prog st 9 x K = bindO (st.ev x) (lenS K) := len_string Tryd.underlying9
theorem ixs9 {K : PV → Prop} : indexK Tryd.prog st 9 x y K = bindO (st.ev x) fun p => bindO (st.ev y) fun q => intK q fun i => ixS i K p := ix_string Tryd.underlying9
theorem sls9 {lo hi : Option Operand} {K : PV → Prop} : sliceK Tryd.prog st 9 x lo hi K = bindO (st.ev x) (slcS st lo hi K) := slc_string Tryd.underlying9
-- 12: uintptr
-- 13: struct { msg string; addr uintptr }
-- 20: interface {}
theorem rdo20 {cs : List PV} {off : Nat} : readCells Tryd.prog 20 cs off = cs[off]? := rd_one ag20
theorem alc20 {K : PS → Prop} : stepN dr Tryd.prog ⟨d, .alloc 20, ty, pos, af, g⟩ st id tk K = K (PS.put { st with heap := (id, .box 20 [.val (.nilIface)]) :: st.heap } d (.ptr id 0)) := s_allocC z20 rfl rfl
theorem ifx20 : (∃ ms, Tryd.prog.underlying 20 = some (.interface ms)) = True := eq_true ⟨_, Tryd.underlying20⟩
-- 21: int32
theorem rdo21 {cs : List PV} {off : Nat} : readCells Tryd.prog 21 cs off = cs[off]? := rd_one ag21
theorem alc21 {K : PS → Prop} : stepN dr Tryd.prog ⟨d, .alloc 21, ty, pos, af, g⟩ st id tk K = K (PS.put { st with heap := (id, .box 21 [.val (.int .i32 0)]) :: st.heap } d (.ptr id 0)) := s_allocC z21 rfl rfl
theorem mki21 {K : PS → Prop} : stepN dr Tryd.prog ⟨d, .makeInterface 21 x, ty, pos, af, g⟩ st id tk K = bindO (st.ev x) fun p => K (st.put d (.iface 21 p)) := s_makeIface Tryd.underlying21 rfl
-- 22: []chevallaw03.Node
theorem rdo22 {cs : List PV} {off : Nat} : readCells Tryd.prog 22 cs off = cs[off]? := rd_one ag22
theorem alc22 {K : PS → Prop} : stepN dr Tryd.prog ⟨d, .alloc 22, ty, pos, af, g⟩ st id tk K = K (PS.put { st with heap := (id, .box 22 [.val (.slice none 0 0)]) :: st.heap } d (.ptr id 0)) := s_allocC z22 rfl rfl
theorem lns22 {K : PV → Prop} : lenK Tryd.prog st 22 x K = bindO (st.ev x) (lenP K) := len_slice Tryd.underlying22
theorem ixs22 {K : PV → Prop} : indexAddrK Tryd.prog st 22 x y K = bindO (st.ev x) fun p => bindO (st.ev y) fun q => intK q fun i => ixP 5 i K p := ix_slice Tryd.underlying22 sz73
theorem sls22 {lo hi : Option Operand} {K : PV → Prop} : sliceK Tryd.prog st 22 x lo hi K = bindO (st.ev x) (slcP 5 st lo hi K) := slc_slice Tryd.underlying22 sz73
theorem app22 {tk : Nat} {K : Delta → Prop} : appendK Tryd.prog st tk ⟨.builtin .append, #[x, y], #[22, 22]⟩ K = bindO (st.ev x) fun d => bindO (st.ev y) fun s => bindO (srcXs st 5 s) fun ys0 => bindO (fzLL ys0) fun ys => (∀ y ∈ ys, y.length = 5) ∧ appT 73 5 80 st tk K d ys :=
  append_t Tryd.underlying22 sz73 by73 z73 rfl (by decide)
theorem bs22 {id tk n : Nat} {K : PS → Prop} {l : List (Nat × Operand)} :
    stepN dr Tryd.prog ⟨d, .buildSlice 22 n l.toArray, ty, pos, af, g⟩ st id tk K = bindO (evParts st l) fun ps => bindO (valsOf ps 0) fun xs => (∀ x ∈ xs, x.length = 5) ∧ xs.length = n ∧ n * 5 ≤ 16777216 ∧ K (PS.put { st with toks := upd st.toks tk ⟨73, 5, n⟩ } d (.row tk xs)) :=
  s_buildSlice Tryd.underlying22 sz73 z73 (by decide) rfl
theorem mks22 {K : PS → Prop} {l c : Operand} : stepN dr Tryd.prog ⟨d, .makeSlice 22 l c, ty, pos, af, g⟩ st id tk K = bindO (st.ev l) fun p => bindO (st.ev c) fun q => intK p fun n => intK q fun m => n = m ∧ 0 ≤ n ∧ n ≤ 9223372036854775807 ∧ 80 * n ≤ 281474976710656 ∧
    K (PS.put { st with heap := (id, .box 73 ((List.range (n.toNat * 5)).map fun i => [.val (.int .u8 0), .val (.int .i64 0), .val (.string ByteArray.empty), .val (.slice none 0 0), .val (.slice none 0 0)].getD (i % 5) (.val .nilIface))) :: st.heap } d (.ms id 0 n.toNat n.toNat)) :=
  s_makeSlice Tryd.underlying22 sz73 by73 z73 rfl rfl (by decide) rfl
-- 23: []string
theorem rdo23 {cs : List PV} {off : Nat} : readCells Tryd.prog 23 cs off = cs[off]? := rd_one ag23
theorem alc23 {K : PS → Prop} : stepN dr Tryd.prog ⟨d, .alloc 23, ty, pos, af, g⟩ st id tk K = K (PS.put { st with heap := (id, .box 23 [.val (.slice none 0 0)]) :: st.heap } d (.ptr id 0)) := s_allocC z23 rfl rfl
theorem lns23 {K : PV → Prop} : lenK Tryd.prog st 23 x K = bindO (st.ev x) (lenP K) := len_slice Tryd.underlying23
theorem ixs23 {K : PV → Prop} : indexAddrK Tryd.prog st 23 x y K = bindO (st.ev x) fun p => bindO (st.ev y) fun q => intK q fun i => ixP 1 i K p := ix_slice Tryd.underlying23 sz9
theorem sls23 {lo hi : Option Operand} {K : PV → Prop} : sliceK Tryd.prog st 23 x lo hi K = bindO (st.ev x) (slcP 1 st lo hi K) := slc_slice Tryd.underlying23 sz9
theorem app23 {tk : Nat} {K : Delta → Prop} : appendK Tryd.prog st tk ⟨.builtin .append, #[x, y], #[23, 23]⟩ K = bindO (st.ev x) fun d => bindO (st.ev y) fun s => bindO (srcXs st 1 s) fun ys0 => bindO (fzLL ys0) fun ys => (∀ y ∈ ys, y.length = 1) ∧ appT 9 1 16 st tk K d ys :=
  append_t Tryd.underlying23 sz9 by9 z9 rfl (by decide)
theorem bs23 {id tk n : Nat} {K : PS → Prop} {l : List (Nat × Operand)} :
    stepN dr Tryd.prog ⟨d, .buildSlice 23 n l.toArray, ty, pos, af, g⟩ st id tk K = bindO (evParts st l) fun ps => bindO (valsOf ps 0) fun xs => (∀ x ∈ xs, x.length = 1) ∧ xs.length = n ∧ n * 1 ≤ 16777216 ∧ K (PS.put { st with toks := upd st.toks tk ⟨9, 1, n⟩ } d (.row tk xs)) :=
  s_buildSlice Tryd.underlying23 sz9 z9 (by decide) rfl
theorem mks23 {K : PS → Prop} {l c : Operand} : stepN dr Tryd.prog ⟨d, .makeSlice 23 l c, ty, pos, af, g⟩ st id tk K = bindO (st.ev l) fun p => bindO (st.ev c) fun q => intK p fun n => intK q fun m => n = m ∧ 0 ≤ n ∧ n ≤ 9223372036854775807 ∧ 16 * n ≤ 281474976710656 ∧
    K (PS.put { st with heap := (id, .box 9 ((List.range (n.toNat * 1)).map fun i => [.val (.string ByteArray.empty)].getD (i % 1) (.val .nilIface))) :: st.heap } d (.ms id 0 n.toNat n.toNat)) :=
  s_makeSlice Tryd.underlying23 sz9 by9 z9 rfl rfl (by decide) rfl
-- 24: func() bool
-- 25: func([]string) bool
-- 26: []chevalref03.V
theorem rdo26 {cs : List PV} {off : Nat} : readCells Tryd.prog 26 cs off = cs[off]? := rd_one ag26
theorem alc26 {K : PS → Prop} : stepN dr Tryd.prog ⟨d, .alloc 26, ty, pos, af, g⟩ st id tk K = K (PS.put { st with heap := (id, .box 26 [.val (.slice none 0 0)]) :: st.heap } d (.ptr id 0)) := s_allocC z26 rfl rfl
theorem lns26 {K : PV → Prop} : lenK Tryd.prog st 26 x K = bindO (st.ev x) (lenP K) := len_slice Tryd.underlying26
theorem ixs26 {K : PV → Prop} : indexAddrK Tryd.prog st 26 x y K = bindO (st.ev x) fun p => bindO (st.ev y) fun q => intK q fun i => ixP 6 i K p := ix_slice Tryd.underlying26 sz28
theorem sls26 {lo hi : Option Operand} {K : PV → Prop} : sliceK Tryd.prog st 26 x lo hi K = bindO (st.ev x) (slcP 6 st lo hi K) := slc_slice Tryd.underlying26 sz28
theorem app26 {tk : Nat} {K : Delta → Prop} : appendK Tryd.prog st tk ⟨.builtin .append, #[x, y], #[26, 26]⟩ K = bindO (st.ev x) fun d => bindO (st.ev y) fun s => bindO (srcXs st 6 s) fun ys0 => bindO (fzLL ys0) fun ys => (∀ y ∈ ys, y.length = 6) ∧ appT 28 6 88 st tk K d ys :=
  append_t Tryd.underlying26 sz28 by28 z28 rfl (by decide)
theorem bs26 {id tk n : Nat} {K : PS → Prop} {l : List (Nat × Operand)} :
    stepN dr Tryd.prog ⟨d, .buildSlice 26 n l.toArray, ty, pos, af, g⟩ st id tk K = bindO (evParts st l) fun ps => bindO (valsOf ps 0) fun xs => (∀ x ∈ xs, x.length = 6) ∧ xs.length = n ∧ n * 6 ≤ 16777216 ∧ K (PS.put { st with toks := upd st.toks tk ⟨28, 6, n⟩ } d (.row tk xs)) :=
  s_buildSlice Tryd.underlying26 sz28 z28 (by decide) rfl
theorem mks26 {K : PS → Prop} {l c : Operand} : stepN dr Tryd.prog ⟨d, .makeSlice 26 l c, ty, pos, af, g⟩ st id tk K = bindO (st.ev l) fun p => bindO (st.ev c) fun q => intK p fun n => intK q fun m => n = m ∧ 0 ≤ n ∧ n ≤ 9223372036854775807 ∧ 88 * n ≤ 281474976710656 ∧
    K (PS.put { st with heap := (id, .box 28 ((List.range (n.toNat * 6)).map fun i => [.val (.int .i64 0), .val (.bool false), .val (.int .i64 0), .val (.string ByteArray.empty), .val (.slice none 0 0), .val (.slice none 0 0)].getD (i % 6) (.val .nilIface))) :: st.heap } d (.ms id 0 n.toNat n.toNat)) :=
  s_makeSlice Tryd.underlying26 sz28 by28 z28 rfl rfl (by decide) rfl
-- 27: struct { Kind int; Bool bool; Int int64; Str string; Items []chevalref03.V; Keys []string }
-- 28: chevalref03.V
theorem rda28 {cs : List PV} {off : Nat} : readCells Tryd.prog 28 cs off = if off + 6 ≤ cs.length then some (.agg ((cs.drop off).take 6)) else none := rd_agg ag28 sz28
theorem alc28 {K : PS → Prop} : stepN dr Tryd.prog ⟨d, .alloc 28, ty, pos, af, g⟩ st id tk K = K (PS.put { st with heap := (id, .box 28 [.val (.int .i64 0), .val (.bool false), .val (.int .i64 0), .val (.string ByteArray.empty), .val (.slice none 0 0), .val (.slice none 0 0)]) :: st.heap } d (.ptr id 0)) := s_allocC z28 rfl rfl
theorem mki28 {K : PS → Prop} : stepN dr Tryd.prog ⟨d, .makeInterface 28 x, ty, pos, af, g⟩ st id tk K = bindO (st.ev x) fun p => K (st.put d (.iface 28 p)) := s_makeIface Tryd.underlying28 rfl
theorem fa28_0 {K : PV → Prop} : fieldAddrK Tryd.prog st 28 x 0 K = bindO (st.ev x) (fldP 0 K) :=
  fld_ (P := Tryd.prog) (st := st) (x := x) (K := K) (f := 0) Tryd.underlying28 rfl sz3 (by decide)
theorem fi28_0 {K : PV → Prop} : fieldK Tryd.prog st 28 x 0 K = bindO (st.ev x) (fieldP Tryd.prog 3 0 K) :=
  field_ (P := Tryd.prog) (st := st) (x := x) (K := K) (f := 0) Tryd.underlying28 rfl
theorem fa28_1 {K : PV → Prop} : fieldAddrK Tryd.prog st 28 x 1 K = bindO (st.ev x) (fldP 1 K) :=
  fld_ (P := Tryd.prog) (st := st) (x := x) (K := K) (f := 1) Tryd.underlying28 rfl sz4 (by decide)
theorem fi28_1 {K : PV → Prop} : fieldK Tryd.prog st 28 x 1 K = bindO (st.ev x) (fieldP Tryd.prog 4 1 K) :=
  field_ (P := Tryd.prog) (st := st) (x := x) (K := K) (f := 1) Tryd.underlying28 rfl
theorem fa28_2 {K : PV → Prop} : fieldAddrK Tryd.prog st 28 x 2 K = bindO (st.ev x) (fldP 2 K) :=
  fld_ (P := Tryd.prog) (st := st) (x := x) (K := K) (f := 2) Tryd.underlying28 rfl sz2 (by decide)
theorem fi28_2 {K : PV → Prop} : fieldK Tryd.prog st 28 x 2 K = bindO (st.ev x) (fieldP Tryd.prog 2 2 K) :=
  field_ (P := Tryd.prog) (st := st) (x := x) (K := K) (f := 2) Tryd.underlying28 rfl
theorem fa28_3 {K : PV → Prop} : fieldAddrK Tryd.prog st 28 x 3 K = bindO (st.ev x) (fldP 3 K) :=
  fld_ (P := Tryd.prog) (st := st) (x := x) (K := K) (f := 3) Tryd.underlying28 rfl sz9 (by decide)
theorem fi28_3 {K : PV → Prop} : fieldK Tryd.prog st 28 x 3 K = bindO (st.ev x) (fieldP Tryd.prog 9 3 K) :=
  field_ (P := Tryd.prog) (st := st) (x := x) (K := K) (f := 3) Tryd.underlying28 rfl
theorem fa28_4 {K : PV → Prop} : fieldAddrK Tryd.prog st 28 x 4 K = bindO (st.ev x) (fldP 4 K) :=
  fld_ (P := Tryd.prog) (st := st) (x := x) (K := K) (f := 4) Tryd.underlying28 rfl sz26 (by decide)
theorem fi28_4 {K : PV → Prop} : fieldK Tryd.prog st 28 x 4 K = bindO (st.ev x) (fieldP Tryd.prog 26 4 K) :=
  field_ (P := Tryd.prog) (st := st) (x := x) (K := K) (f := 4) Tryd.underlying28 rfl
theorem fa28_5 {K : PV → Prop} : fieldAddrK Tryd.prog st 28 x 5 K = bindO (st.ev x) (fldP 5 K) :=
  fld_ (P := Tryd.prog) (st := st) (x := x) (K := K) (f := 5) Tryd.underlying28 rfl sz23 (by decide)
theorem fi28_5 {K : PV → Prop} : fieldK Tryd.prog st 28 x 5 K = bindO (st.ev x) (fieldP Tryd.prog 23 5 K) :=
  field_ (P := Tryd.prog) (st := st) (x := x) (K := K) (f := 5) Tryd.underlying28 rfl
theorem bld28 {l : List (Nat × Operand)} {K : PV → Prop} : buildK Tryd.prog st 28 l K = bindO (evParts st l) fun ps => (ps.all fun e => match e.2 with | .tup _ => false | _ => true) = true ∧ bindO (fillP (fun i => [(0, 1), (1, 1), (2, 1), (3, 1), (4, 1), (5, 1)][i]?) [.val (.int .i64 0), .val (.bool false), .val (.int .i64 0), .val (.string ByteArray.empty), .val (.slice none 0 0), .val (.slice none 0 0)] ps) fun cs => K (.agg cs) :=
  buildC Tryd.underlying28 z28 (by kernel_rfl) rfl rfl
-- 29: func([]chevallaw03.Node) chevalref03.V
-- 30: []value.Value
theorem rdo30 {cs : List PV} {off : Nat} : readCells Tryd.prog 30 cs off = cs[off]? := rd_one ag30
theorem alc30 {K : PS → Prop} : stepN dr Tryd.prog ⟨d, .alloc 30, ty, pos, af, g⟩ st id tk K = K (PS.put { st with heap := (id, .box 30 [.val (.slice none 0 0)]) :: st.heap } d (.ptr id 0)) := s_allocC z30 rfl rfl
theorem lns30 {K : PV → Prop} : lenK Tryd.prog st 30 x K = bindO (st.ev x) (lenP K) := len_slice Tryd.underlying30
theorem ixs30 {K : PV → Prop} : indexAddrK Tryd.prog st 30 x y K = bindO (st.ev x) fun p => bindO (st.ev y) fun q => intK q fun i => ixP 6 i K p := ix_slice Tryd.underlying30 sz32
theorem sls30 {lo hi : Option Operand} {K : PV → Prop} : sliceK Tryd.prog st 30 x lo hi K = bindO (st.ev x) (slcP 6 st lo hi K) := slc_slice Tryd.underlying30 sz32
theorem app30 {tk : Nat} {K : Delta → Prop} : appendK Tryd.prog st tk ⟨.builtin .append, #[x, y], #[30, 30]⟩ K = bindO (st.ev x) fun d => bindO (st.ev y) fun s => bindO (srcXs st 6 s) fun ys0 => bindO (fzLL ys0) fun ys => (∀ y ∈ ys, y.length = 6) ∧ appT 32 6 88 st tk K d ys :=
  append_t Tryd.underlying30 sz32 by32 z32 rfl (by decide)
theorem bs30 {id tk n : Nat} {K : PS → Prop} {l : List (Nat × Operand)} :
    stepN dr Tryd.prog ⟨d, .buildSlice 30 n l.toArray, ty, pos, af, g⟩ st id tk K = bindO (evParts st l) fun ps => bindO (valsOf ps 0) fun xs => (∀ x ∈ xs, x.length = 6) ∧ xs.length = n ∧ n * 6 ≤ 16777216 ∧ K (PS.put { st with toks := upd st.toks tk ⟨32, 6, n⟩ } d (.row tk xs)) :=
  s_buildSlice Tryd.underlying30 sz32 z32 (by decide) rfl
theorem mks30 {K : PS → Prop} {l c : Operand} : stepN dr Tryd.prog ⟨d, .makeSlice 30 l c, ty, pos, af, g⟩ st id tk K = bindO (st.ev l) fun p => bindO (st.ev c) fun q => intK p fun n => intK q fun m => n = m ∧ 0 ≤ n ∧ n ≤ 9223372036854775807 ∧ 88 * n ≤ 281474976710656 ∧
    K (PS.put { st with heap := (id, .box 32 ((List.range (n.toNat * 6)).map fun i => [.val (.int .i64 0), .val (.bool false), .val (.int .i64 0), .val (.string ByteArray.empty), .val (.slice none 0 0), .val (.slice none 0 0)].getD (i % 6) (.val .nilIface))) :: st.heap } d (.ms id 0 n.toNat n.toNat)) :=
  s_makeSlice Tryd.underlying30 sz32 by32 z32 rfl rfl (by decide) rfl
-- 31: struct { Kind int; Bool bool; Int int64; Str string; Items []value.Value; Keys []string }
-- 32: value.Value
theorem rda32 {cs : List PV} {off : Nat} : readCells Tryd.prog 32 cs off = if off + 6 ≤ cs.length then some (.agg ((cs.drop off).take 6)) else none := rd_agg ag32 sz32
theorem alc32 {K : PS → Prop} : stepN dr Tryd.prog ⟨d, .alloc 32, ty, pos, af, g⟩ st id tk K = K (PS.put { st with heap := (id, .box 32 [.val (.int .i64 0), .val (.bool false), .val (.int .i64 0), .val (.string ByteArray.empty), .val (.slice none 0 0), .val (.slice none 0 0)]) :: st.heap } d (.ptr id 0)) := s_allocC z32 rfl rfl
theorem mki32 {K : PS → Prop} : stepN dr Tryd.prog ⟨d, .makeInterface 32 x, ty, pos, af, g⟩ st id tk K = bindO (st.ev x) fun p => K (st.put d (.iface 32 p)) := s_makeIface Tryd.underlying32 rfl
theorem fa32_0 {K : PV → Prop} : fieldAddrK Tryd.prog st 32 x 0 K = bindO (st.ev x) (fldP 0 K) :=
  fld_ (P := Tryd.prog) (st := st) (x := x) (K := K) (f := 0) Tryd.underlying32 rfl sz3 (by decide)
theorem fi32_0 {K : PV → Prop} : fieldK Tryd.prog st 32 x 0 K = bindO (st.ev x) (fieldP Tryd.prog 3 0 K) :=
  field_ (P := Tryd.prog) (st := st) (x := x) (K := K) (f := 0) Tryd.underlying32 rfl
theorem fa32_1 {K : PV → Prop} : fieldAddrK Tryd.prog st 32 x 1 K = bindO (st.ev x) (fldP 1 K) :=
  fld_ (P := Tryd.prog) (st := st) (x := x) (K := K) (f := 1) Tryd.underlying32 rfl sz4 (by decide)
theorem fi32_1 {K : PV → Prop} : fieldK Tryd.prog st 32 x 1 K = bindO (st.ev x) (fieldP Tryd.prog 4 1 K) :=
  field_ (P := Tryd.prog) (st := st) (x := x) (K := K) (f := 1) Tryd.underlying32 rfl
theorem fa32_2 {K : PV → Prop} : fieldAddrK Tryd.prog st 32 x 2 K = bindO (st.ev x) (fldP 2 K) :=
  fld_ (P := Tryd.prog) (st := st) (x := x) (K := K) (f := 2) Tryd.underlying32 rfl sz2 (by decide)
theorem fi32_2 {K : PV → Prop} : fieldK Tryd.prog st 32 x 2 K = bindO (st.ev x) (fieldP Tryd.prog 2 2 K) :=
  field_ (P := Tryd.prog) (st := st) (x := x) (K := K) (f := 2) Tryd.underlying32 rfl
theorem fa32_3 {K : PV → Prop} : fieldAddrK Tryd.prog st 32 x 3 K = bindO (st.ev x) (fldP 3 K) :=
  fld_ (P := Tryd.prog) (st := st) (x := x) (K := K) (f := 3) Tryd.underlying32 rfl sz9 (by decide)
theorem fi32_3 {K : PV → Prop} : fieldK Tryd.prog st 32 x 3 K = bindO (st.ev x) (fieldP Tryd.prog 9 3 K) :=
  field_ (P := Tryd.prog) (st := st) (x := x) (K := K) (f := 3) Tryd.underlying32 rfl
theorem fa32_4 {K : PV → Prop} : fieldAddrK Tryd.prog st 32 x 4 K = bindO (st.ev x) (fldP 4 K) :=
  fld_ (P := Tryd.prog) (st := st) (x := x) (K := K) (f := 4) Tryd.underlying32 rfl sz30 (by decide)
theorem fi32_4 {K : PV → Prop} : fieldK Tryd.prog st 32 x 4 K = bindO (st.ev x) (fieldP Tryd.prog 30 4 K) :=
  field_ (P := Tryd.prog) (st := st) (x := x) (K := K) (f := 4) Tryd.underlying32 rfl
theorem fa32_5 {K : PV → Prop} : fieldAddrK Tryd.prog st 32 x 5 K = bindO (st.ev x) (fldP 5 K) :=
  fld_ (P := Tryd.prog) (st := st) (x := x) (K := K) (f := 5) Tryd.underlying32 rfl sz23 (by decide)
theorem fi32_5 {K : PV → Prop} : fieldK Tryd.prog st 32 x 5 K = bindO (st.ev x) (fieldP Tryd.prog 23 5 K) :=
  field_ (P := Tryd.prog) (st := st) (x := x) (K := K) (f := 5) Tryd.underlying32 rfl
theorem bld32 {l : List (Nat × Operand)} {K : PV → Prop} : buildK Tryd.prog st 32 l K = bindO (evParts st l) fun ps => (ps.all fun e => match e.2 with | .tup _ => false | _ => true) = true ∧ bindO (fillP (fun i => [(0, 1), (1, 1), (2, 1), (3, 1), (4, 1), (5, 1)][i]?) [.val (.int .i64 0), .val (.bool false), .val (.int .i64 0), .val (.string ByteArray.empty), .val (.slice none 0 0), .val (.slice none 0 0)] ps) fun cs => K (.agg cs) :=
  buildC Tryd.underlying32 z32 (by kernel_rfl) rfl rfl
-- 33: api.Errno
theorem rdo33 {cs : List PV} {off : Nat} : readCells Tryd.prog 33 cs off = cs[off]? := rd_one ag33
theorem alc33 {K : PS → Prop} : stepN dr Tryd.prog ⟨d, .alloc 33, ty, pos, af, g⟩ st id tk K = K (PS.put { st with heap := (id, .box 33 [.val (.int .i64 0)]) :: st.heap } d (.ptr id 0)) := s_allocC z33 rfl rfl
theorem mki33 {K : PS → Prop} : stepN dr Tryd.prog ⟨d, .makeInterface 33 x, ty, pos, af, g⟩ st id tk K = bindO (st.ev x) fun p => K (st.put d (.iface 33 p)) := s_makeIface Tryd.underlying33 rfl
-- 35: func(value.Value, []string) (value.Value, api.Errno)
-- 36: func(chevalref03.V) value.Value
-- 38: func(chevalref03.V, []string) (chevalref03.V, bool)
-- 39: func(chevalref03.V, chevalref03.V) bool
-- 40: func(value.Value) chevalref03.V
-- 41: func([]chevallaw03.Node, []string) bool
-- 42: []chevalref04.Part
theorem rdo42 {cs : List PV} {off : Nat} : readCells Tryd.prog 42 cs off = cs[off]? := rd_one ag42
theorem alc42 {K : PS → Prop} : stepN dr Tryd.prog ⟨d, .alloc 42, ty, pos, af, g⟩ st id tk K = K (PS.put { st with heap := (id, .box 42 [.val (.slice none 0 0)]) :: st.heap } d (.ptr id 0)) := s_allocC z42 rfl rfl
theorem lns42 {K : PV → Prop} : lenK Tryd.prog st 42 x K = bindO (st.ev x) (lenP K) := len_slice Tryd.underlying42
theorem ixs42 {K : PV → Prop} : indexAddrK Tryd.prog st 42 x y K = bindO (st.ev x) fun p => bindO (st.ev y) fun q => intK q fun i => ixP 7 i K p := ix_slice Tryd.underlying42 sz49
theorem sls42 {lo hi : Option Operand} {K : PV → Prop} : sliceK Tryd.prog st 42 x lo hi K = bindO (st.ev x) (slcP 7 st lo hi K) := slc_slice Tryd.underlying42 sz49
theorem app42 {tk : Nat} {K : Delta → Prop} : appendK Tryd.prog st tk ⟨.builtin .append, #[x, y], #[42, 42]⟩ K = bindO (st.ev x) fun d => bindO (st.ev y) fun s => bindO (srcXs st 7 s) fun ys0 => bindO (fzLL ys0) fun ys => (∀ y ∈ ys, y.length = 7) ∧ appT 49 7 112 st tk K d ys :=
  append_t Tryd.underlying42 sz49 by49 z49 rfl (by decide)
theorem bs42 {id tk n : Nat} {K : PS → Prop} {l : List (Nat × Operand)} :
    stepN dr Tryd.prog ⟨d, .buildSlice 42 n l.toArray, ty, pos, af, g⟩ st id tk K = bindO (evParts st l) fun ps => bindO (valsOf ps 0) fun xs => (∀ x ∈ xs, x.length = 7) ∧ xs.length = n ∧ n * 7 ≤ 16777216 ∧ K (PS.put { st with toks := upd st.toks tk ⟨49, 7, n⟩ } d (.row tk xs)) :=
  s_buildSlice Tryd.underlying42 sz49 z49 (by decide) rfl
theorem mks42 {K : PS → Prop} {l c : Operand} : stepN dr Tryd.prog ⟨d, .makeSlice 42 l c, ty, pos, af, g⟩ st id tk K = bindO (st.ev l) fun p => bindO (st.ev c) fun q => intK p fun n => intK q fun m => n = m ∧ 0 ≤ n ∧ n ≤ 9223372036854775807 ∧ 112 * n ≤ 281474976710656 ∧
    K (PS.put { st with heap := (id, .box 49 ((List.range (n.toNat * 7)).map fun i => [.val (.slice none 0 0), .val (.int .i64 0), .val (.bool false), .val (.int .i64 0), .val (.string ByteArray.empty), .val (.slice none 0 0), .val (.slice none 0 0)].getD (i % 7) (.val .nilIface))) :: st.heap } d (.ms id 0 n.toNat n.toNat)) :=
  s_makeSlice Tryd.underlying42 sz49 by49 z49 rfl rfl (by decide) rfl
-- 43: func(chevalref03.V, []string) []chevalref04.Part
-- 44: func(func([]string, value.Value) bool)
-- 45: iter.Seq2[[]string,cheval/value.Value]
-- 46: func(value.Value) iter.Seq2[[]string,cheval/value.Value]
-- 47: func([]string, []string) bool
-- 48: struct { Path []string; V chevalref03.V }
-- 49: chevalref04.Part
theorem rda49 {cs : List PV} {off : Nat} : readCells Tryd.prog 49 cs off = if off + 7 ≤ cs.length then some (.agg ((cs.drop off).take 7)) else none := rd_agg ag49 sz49
theorem alc49 {K : PS → Prop} : stepN dr Tryd.prog ⟨d, .alloc 49, ty, pos, af, g⟩ st id tk K = K (PS.put { st with heap := (id, .box 49 [.val (.slice none 0 0), .val (.int .i64 0), .val (.bool false), .val (.int .i64 0), .val (.string ByteArray.empty), .val (.slice none 0 0), .val (.slice none 0 0)]) :: st.heap } d (.ptr id 0)) := s_allocC z49 rfl rfl
theorem mki49 {K : PS → Prop} : stepN dr Tryd.prog ⟨d, .makeInterface 49 x, ty, pos, af, g⟩ st id tk K = bindO (st.ev x) fun p => K (st.put d (.iface 49 p)) := s_makeIface Tryd.underlying49 rfl
theorem fa49_0 {K : PV → Prop} : fieldAddrK Tryd.prog st 49 x 0 K = bindO (st.ev x) (fldP 0 K) :=
  fld_ (P := Tryd.prog) (st := st) (x := x) (K := K) (f := 0) Tryd.underlying49 rfl sz23 (by decide)
theorem fi49_0 {K : PV → Prop} : fieldK Tryd.prog st 49 x 0 K = bindO (st.ev x) (fieldP Tryd.prog 23 0 K) :=
  field_ (P := Tryd.prog) (st := st) (x := x) (K := K) (f := 0) Tryd.underlying49 rfl
theorem fa49_1 {K : PV → Prop} : fieldAddrK Tryd.prog st 49 x 1 K = bindO (st.ev x) (fldP 1 K) :=
  fld_ (P := Tryd.prog) (st := st) (x := x) (K := K) (f := 1) Tryd.underlying49 rfl sz28 (by decide)
theorem fi49_1 {K : PV → Prop} : fieldK Tryd.prog st 49 x 1 K = bindO (st.ev x) (fieldP Tryd.prog 28 1 K) :=
  field_ (P := Tryd.prog) (st := st) (x := x) (K := K) (f := 1) Tryd.underlying49 rfl
theorem bld49 {l : List (Nat × Operand)} {K : PV → Prop} : buildK Tryd.prog st 49 l K = bindO (evParts st l) fun ps => (ps.all fun e => match e.2 with | .tup _ => false | _ => true) = true ∧ bindO (fillP (fun i => [(0, 1), (1, 6)][i]?) [.val (.slice none 0 0), .val (.int .i64 0), .val (.bool false), .val (.int .i64 0), .val (.string ByteArray.empty), .val (.slice none 0 0), .val (.slice none 0 0)] ps) fun cs => K (.agg cs) :=
  buildC Tryd.underlying49 z49 (by kernel_rfl) rfl rfl
-- 50: func([]string, value.Value) bool
-- 51: func([]chevallaw03.Node, uint8) bool
-- 52: uint16
theorem rdo52 {cs : List PV} {off : Nat} : readCells Tryd.prog 52 cs off = cs[off]? := rd_one ag52
theorem alc52 {K : PS → Prop} : stepN dr Tryd.prog ⟨d, .alloc 52, ty, pos, af, g⟩ st id tk K = K (PS.put { st with heap := (id, .box 52 [.val (.int .u16 0)]) :: st.heap } d (.ptr id 0)) := s_allocC z52 rfl rfl
theorem mki52 {K : PS → Prop} : stepN dr Tryd.prog ⟨d, .makeInterface 52 x, ty, pos, af, g⟩ st id tk K = bindO (st.ev x) fun p => K (st.put d (.iface 52 p)) := s_makeIface Tryd.underlying52 rfl
-- 53: struct { N uint16; More []string }
-- 54: chevallaw04.Where
theorem rda54 {cs : List PV} {off : Nat} : readCells Tryd.prog 54 cs off = if off + 2 ≤ cs.length then some (.agg ((cs.drop off).take 2)) else none := rd_agg ag54 sz54
theorem alc54 {K : PS → Prop} : stepN dr Tryd.prog ⟨d, .alloc 54, ty, pos, af, g⟩ st id tk K = K (PS.put { st with heap := (id, .box 54 [.val (.int .u16 0), .val (.slice none 0 0)]) :: st.heap } d (.ptr id 0)) := s_allocC z54 rfl rfl
theorem mki54 {K : PS → Prop} : stepN dr Tryd.prog ⟨d, .makeInterface 54 x, ty, pos, af, g⟩ st id tk K = bindO (st.ev x) fun p => K (st.put d (.iface 54 p)) := s_makeIface Tryd.underlying54 rfl
theorem fa54_0 {K : PV → Prop} : fieldAddrK Tryd.prog st 54 x 0 K = bindO (st.ev x) (fldP 0 K) :=
  fld_ (P := Tryd.prog) (st := st) (x := x) (K := K) (f := 0) Tryd.underlying54 rfl sz52 (by decide)
theorem fi54_0 {K : PV → Prop} : fieldK Tryd.prog st 54 x 0 K = bindO (st.ev x) (fieldP Tryd.prog 52 0 K) :=
  field_ (P := Tryd.prog) (st := st) (x := x) (K := K) (f := 0) Tryd.underlying54 rfl
theorem fa54_1 {K : PV → Prop} : fieldAddrK Tryd.prog st 54 x 1 K = bindO (st.ev x) (fldP 1 K) :=
  fld_ (P := Tryd.prog) (st := st) (x := x) (K := K) (f := 1) Tryd.underlying54 rfl sz23 (by decide)
theorem fi54_1 {K : PV → Prop} : fieldK Tryd.prog st 54 x 1 K = bindO (st.ev x) (fieldP Tryd.prog 23 1 K) :=
  field_ (P := Tryd.prog) (st := st) (x := x) (K := K) (f := 1) Tryd.underlying54 rfl
theorem bld54 {l : List (Nat × Operand)} {K : PV → Prop} : buildK Tryd.prog st 54 l K = bindO (evParts st l) fun ps => (ps.all fun e => match e.2 with | .tup _ => false | _ => true) = true ∧ bindO (fillP (fun i => [(0, 1), (1, 1)][i]?) [.val (.int .u16 0), .val (.slice none 0 0)] ps) fun cs => K (.agg cs) :=
  buildC Tryd.underlying54 z54 (by kernel_rfl) rfl rfl
-- 55: func(chevalref03.V, uint16) []string
-- 56: func(value.Value, []string, value.Value) (value.Value, api.Errno)
-- 57: func(chevalref03.V, []string, chevalref03.V) chevalref03.V
-- 58: func([]chevallaw03.Node, []chevallaw03.Node, chevallaw04.Where) bool
-- 59: [2]uint16
theorem rda59 {cs : List PV} {off : Nat} : readCells Tryd.prog 59 cs off = if off + 2 ≤ cs.length then some (.agg ((cs.drop off).take 2)) else none := rd_agg ag59 sz59
theorem alc59 {K : PS → Prop} : stepN dr Tryd.prog ⟨d, .alloc 59, ty, pos, af, g⟩ st id tk K = K (PS.put { st with heap := (id, .box 59 [.val (.int .u16 0), .val (.int .u16 0)]) :: st.heap } d (.ptr id 0)) := s_allocC z59 rfl rfl
theorem lns59 {K : PV → Prop} : lenK Tryd.prog st 59 x K = K (.val (.int .i64 (2 : Nat))) := len_array Tryd.underlying59
theorem ixs59 {K : PV → Prop} : indexAddrK Tryd.prog st 59 x y K = bindO (st.ev x) fun p => bindO (st.ev y) fun q => intK q fun i => ixA 1 2 i K p := ix_array Tryd.underlying59 sz52
theorem bld59 {l : List (Nat × Operand)} {K : PV → Prop} : buildK Tryd.prog st 59 l K = bindO (evParts st l) fun ps => (ps.all fun e => match e.2 with | .tup _ => false | _ => true) = true ∧ bindO (fillP (fun i => some (i * 1, 1)) [.val (.int .u16 0), .val (.int .u16 0)] ps) fun cs => K (.agg cs) :=
  buildA Tryd.underlying59 z59 sz52 rfl rfl
-- 60: func([]chevallaw03.Node, []chevallaw03.Node, [2]uint16) bool
-- 61: func(chevalref03.V, []string) chevalref03.V
-- 62: func([]chevallaw03.Node, uint16, []string) bool
-- 64: func(string) ([]string, int, api.Errno)
-- 66: func(string) ([]string, int, int)
-- 67: func(string) bool
theorem rdo67 {cs : List PV} {off : Nat} : readCells Tryd.prog 67 cs off = cs[off]? := rd_one ag67
-- 68: func([]string, []value.Value) (value.Value, api.Errno)
-- 69: func(...value.Value) value.Value
-- 70: func(int64) value.Value
-- 71: []uint8
theorem rdo71 {cs : List PV} {off : Nat} : readCells Tryd.prog 71 cs off = cs[off]? := rd_one ag71
theorem alc71 {K : PS → Prop} : stepN dr Tryd.prog ⟨d, .alloc 71, ty, pos, af, g⟩ st id tk K = K (PS.put { st with heap := (id, .box 71 [.val (.slice none 0 0)]) :: st.heap } d (.ptr id 0)) := s_allocC z71 rfl rfl
theorem lns71 {K : PV → Prop} : lenK Tryd.prog st 71 x K = bindO (st.ev x) (lenP K) := len_slice Tryd.underlying71
theorem ixs71 {K : PV → Prop} : indexAddrK Tryd.prog st 71 x y K = bindO (st.ev x) fun p => bindO (st.ev y) fun q => intK q fun i => ixP 1 i K p := ix_slice Tryd.underlying71 sz5
theorem sls71 {lo hi : Option Operand} {K : PV → Prop} : sliceK Tryd.prog st 71 x lo hi K = bindO (st.ev x) (slcP 1 st lo hi K) := slc_slice Tryd.underlying71 sz5
theorem app71 {tk : Nat} {K : Delta → Prop} : appendK Tryd.prog st tk ⟨.builtin .append, #[x, y], #[71, 71]⟩ K = bindO (st.ev x) fun d => bindO (st.ev y) fun s => bindO (srcXs st 1 s) fun ys0 => bindO (fzLL ys0) fun ys => (∀ y ∈ ys, y.length = 1) ∧ appT 5 1 1 st tk K d ys :=
  append_t Tryd.underlying71 sz5 by5 z5 rfl (by decide)
theorem bs71 {id tk n : Nat} {K : PS → Prop} {l : List (Nat × Operand)} :
    stepN dr Tryd.prog ⟨d, .buildSlice 71 n l.toArray, ty, pos, af, g⟩ st id tk K = bindO (evParts st l) fun ps => bindO (valsOf ps 0) fun xs => (∀ x ∈ xs, x.length = 1) ∧ xs.length = n ∧ n * 1 ≤ 16777216 ∧ K (PS.put { st with toks := upd st.toks tk ⟨5, 1, n⟩ } d (.row tk xs)) :=
  s_buildSlice Tryd.underlying71 sz5 z5 (by decide) rfl
theorem isb71 : isBytes Tryd.prog 71 = True := eq_true ⟨5, Tryd.underlying71, Tryd.underlying5⟩
theorem aps71 {tk : Nat} {K : Delta → Prop} : appendK Tryd.prog st tk ⟨.builtin .append, #[x, y], #[71, 9]⟩ K = bindO (st.ev x) fun d => bindO (st.ev y) fun s => appS 5 1 st tk K d s :=
  append_s Tryd.underlying71 Tryd.underlying9 sz5 by5 z5
theorem cvr71 {k : Nat} {xs : List Int} {K : PV → Prop} : convK Tryd.prog 71 9 (rowC k xs) K = K (.val (.string (strOfNums xs))) := conv_rowC (by rw [Tryd.underlying71]; rfl) ⟨5, Tryd.underlying71, Tryd.underlying5⟩ Tryd.underlying9
theorem mks71 {K : PS → Prop} {l c : Operand} : stepN dr Tryd.prog ⟨d, .makeSlice 71 l c, ty, pos, af, g⟩ st id tk K = bindO (st.ev l) fun p => bindO (st.ev c) fun q => intK p fun n => intK q fun m => n = m ∧ 0 ≤ n ∧ n ≤ 9223372036854775807 ∧ 1 * n ≤ 281474976710656 ∧
    K (PS.put { st with heap := (id, .box 5 ((List.range (n.toNat * 1)).map fun i => [.val (.int .u8 0)].getD (i % 1) (.val .nilIface))) :: st.heap } d (.ms id 0 n.toNat n.toNat)) :=
  s_makeSlice Tryd.underlying71 sz5 by5 z5 rfl rfl (by decide) rfl
-- 72: struct { Kind uint8; Int int64; Str string; Items []uint8; Keys []string }
-- 73: chevallaw03.Node
theorem rda73 {cs : List PV} {off : Nat} : readCells Tryd.prog 73 cs off = if off + 5 ≤ cs.length then some (.agg ((cs.drop off).take 5)) else none := rd_agg ag73 sz73
theorem alc73 {K : PS → Prop} : stepN dr Tryd.prog ⟨d, .alloc 73, ty, pos, af, g⟩ st id tk K = K (PS.put { st with heap := (id, .box 73 [.val (.int .u8 0), .val (.int .i64 0), .val (.string ByteArray.empty), .val (.slice none 0 0), .val (.slice none 0 0)]) :: st.heap } d (.ptr id 0)) := s_allocC z73 rfl rfl
theorem mki73 {K : PS → Prop} : stepN dr Tryd.prog ⟨d, .makeInterface 73 x, ty, pos, af, g⟩ st id tk K = bindO (st.ev x) fun p => K (st.put d (.iface 73 p)) := s_makeIface Tryd.underlying73 rfl
theorem fa73_0 {K : PV → Prop} : fieldAddrK Tryd.prog st 73 x 0 K = bindO (st.ev x) (fldP 0 K) :=
  fld_ (P := Tryd.prog) (st := st) (x := x) (K := K) (f := 0) Tryd.underlying73 rfl sz5 (by decide)
theorem fi73_0 {K : PV → Prop} : fieldK Tryd.prog st 73 x 0 K = bindO (st.ev x) (fieldP Tryd.prog 5 0 K) :=
  field_ (P := Tryd.prog) (st := st) (x := x) (K := K) (f := 0) Tryd.underlying73 rfl
theorem fa73_1 {K : PV → Prop} : fieldAddrK Tryd.prog st 73 x 1 K = bindO (st.ev x) (fldP 1 K) :=
  fld_ (P := Tryd.prog) (st := st) (x := x) (K := K) (f := 1) Tryd.underlying73 rfl sz2 (by decide)
theorem fi73_1 {K : PV → Prop} : fieldK Tryd.prog st 73 x 1 K = bindO (st.ev x) (fieldP Tryd.prog 2 1 K) :=
  field_ (P := Tryd.prog) (st := st) (x := x) (K := K) (f := 1) Tryd.underlying73 rfl
theorem fa73_2 {K : PV → Prop} : fieldAddrK Tryd.prog st 73 x 2 K = bindO (st.ev x) (fldP 2 K) :=
  fld_ (P := Tryd.prog) (st := st) (x := x) (K := K) (f := 2) Tryd.underlying73 rfl sz9 (by decide)
theorem fi73_2 {K : PV → Prop} : fieldK Tryd.prog st 73 x 2 K = bindO (st.ev x) (fieldP Tryd.prog 9 2 K) :=
  field_ (P := Tryd.prog) (st := st) (x := x) (K := K) (f := 2) Tryd.underlying73 rfl
theorem fa73_3 {K : PV → Prop} : fieldAddrK Tryd.prog st 73 x 3 K = bindO (st.ev x) (fldP 3 K) :=
  fld_ (P := Tryd.prog) (st := st) (x := x) (K := K) (f := 3) Tryd.underlying73 rfl sz71 (by decide)
theorem fi73_3 {K : PV → Prop} : fieldK Tryd.prog st 73 x 3 K = bindO (st.ev x) (fieldP Tryd.prog 71 3 K) :=
  field_ (P := Tryd.prog) (st := st) (x := x) (K := K) (f := 3) Tryd.underlying73 rfl
theorem fa73_4 {K : PV → Prop} : fieldAddrK Tryd.prog st 73 x 4 K = bindO (st.ev x) (fldP 4 K) :=
  fld_ (P := Tryd.prog) (st := st) (x := x) (K := K) (f := 4) Tryd.underlying73 rfl sz23 (by decide)
theorem fi73_4 {K : PV → Prop} : fieldK Tryd.prog st 73 x 4 K = bindO (st.ev x) (fieldP Tryd.prog 23 4 K) :=
  field_ (P := Tryd.prog) (st := st) (x := x) (K := K) (f := 4) Tryd.underlying73 rfl
theorem bld73 {l : List (Nat × Operand)} {K : PV → Prop} : buildK Tryd.prog st 73 l K = bindO (evParts st l) fun ps => (ps.all fun e => match e.2 with | .tup _ => false | _ => true) = true ∧ bindO (fillP (fun i => [(0, 1), (1, 1), (2, 1), (3, 1), (4, 1)][i]?) [.val (.int .u8 0), .val (.int .i64 0), .val (.string ByteArray.empty), .val (.slice none 0 0), .val (.slice none 0 0)] ps) fun cs => K (.agg cs) :=
  buildC Tryd.underlying73 z73 (by kernel_rfl) rfl rfl
-- 74: func(string) string
-- 75: func(chevalref03.V) int
-- 76: func(chevalref03.V, string, chevalref03.V) (chevalref03.V, bool)
-- 77: func(value.Value, string) int
-- 78: func() value.Value
-- 79: func(chevalref03.V, string) int
-- 80: func(chevalref02.N) string
-- 81: []int
theorem rdo81 {cs : List PV} {off : Nat} : readCells Tryd.prog 81 cs off = cs[off]? := rd_one ag81
theorem alc81 {K : PS → Prop} : stepN dr Tryd.prog ⟨d, .alloc 81, ty, pos, af, g⟩ st id tk K = K (PS.put { st with heap := (id, .box 81 [.val (.slice none 0 0)]) :: st.heap } d (.ptr id 0)) := s_allocC z81 rfl rfl
theorem lns81 {K : PV → Prop} : lenK Tryd.prog st 81 x K = bindO (st.ev x) (lenP K) := len_slice Tryd.underlying81
theorem ixs81 {K : PV → Prop} : indexAddrK Tryd.prog st 81 x y K = bindO (st.ev x) fun p => bindO (st.ev y) fun q => intK q fun i => ixP 1 i K p := ix_slice Tryd.underlying81 sz3
theorem sls81 {lo hi : Option Operand} {K : PV → Prop} : sliceK Tryd.prog st 81 x lo hi K = bindO (st.ev x) (slcP 1 st lo hi K) := slc_slice Tryd.underlying81 sz3
theorem app81 {tk : Nat} {K : Delta → Prop} : appendK Tryd.prog st tk ⟨.builtin .append, #[x, y], #[81, 81]⟩ K = bindO (st.ev x) fun d => bindO (st.ev y) fun s => bindO (srcXs st 1 s) fun ys0 => bindO (fzLL ys0) fun ys => (∀ y ∈ ys, y.length = 1) ∧ appT 3 1 8 st tk K d ys :=
  append_t Tryd.underlying81 sz3 by3 z3 rfl (by decide)
theorem bs81 {id tk n : Nat} {K : PS → Prop} {l : List (Nat × Operand)} :
    stepN dr Tryd.prog ⟨d, .buildSlice 81 n l.toArray, ty, pos, af, g⟩ st id tk K = bindO (evParts st l) fun ps => bindO (valsOf ps 0) fun xs => (∀ x ∈ xs, x.length = 1) ∧ xs.length = n ∧ n * 1 ≤ 16777216 ∧ K (PS.put { st with toks := upd st.toks tk ⟨3, 1, n⟩ } d (.row tk xs)) :=
  s_buildSlice Tryd.underlying81 sz3 z3 (by decide) rfl
theorem mks81 {K : PS → Prop} {l c : Operand} : stepN dr Tryd.prog ⟨d, .makeSlice 81 l c, ty, pos, af, g⟩ st id tk K = bindO (st.ev l) fun p => bindO (st.ev c) fun q => intK p fun n => intK q fun m => n = m ∧ 0 ≤ n ∧ n ≤ 9223372036854775807 ∧ 8 * n ≤ 281474976710656 ∧
    K (PS.put { st with heap := (id, .box 3 ((List.range (n.toNat * 1)).map fun i => [.val (.int .i64 0)].getD (i % 1) (.val .nilIface))) :: st.heap } d (.ms id 0 n.toNat n.toNat)) :=
  s_makeSlice Tryd.underlying81 sz3 by3 z3 rfl rfl (by decide) rfl
-- 82: struct { Below bool; Figures []int }
-- 83: chevalref02.N
theorem rda83 {cs : List PV} {off : Nat} : readCells Tryd.prog 83 cs off = if off + 2 ≤ cs.length then some (.agg ((cs.drop off).take 2)) else none := rd_agg ag83 sz83
theorem alc83 {K : PS → Prop} : stepN dr Tryd.prog ⟨d, .alloc 83, ty, pos, af, g⟩ st id tk K = K (PS.put { st with heap := (id, .box 83 [.val (.bool false), .val (.slice none 0 0)]) :: st.heap } d (.ptr id 0)) := s_allocC z83 rfl rfl
theorem mki83 {K : PS → Prop} : stepN dr Tryd.prog ⟨d, .makeInterface 83 x, ty, pos, af, g⟩ st id tk K = bindO (st.ev x) fun p => K (st.put d (.iface 83 p)) := s_makeIface Tryd.underlying83 rfl
theorem fa83_0 {K : PV → Prop} : fieldAddrK Tryd.prog st 83 x 0 K = bindO (st.ev x) (fldP 0 K) :=
  fld_ (P := Tryd.prog) (st := st) (x := x) (K := K) (f := 0) Tryd.underlying83 rfl sz4 (by decide)
theorem fi83_0 {K : PV → Prop} : fieldK Tryd.prog st 83 x 0 K = bindO (st.ev x) (fieldP Tryd.prog 4 0 K) :=
  field_ (P := Tryd.prog) (st := st) (x := x) (K := K) (f := 0) Tryd.underlying83 rfl
theorem fa83_1 {K : PV → Prop} : fieldAddrK Tryd.prog st 83 x 1 K = bindO (st.ev x) (fldP 1 K) :=
  fld_ (P := Tryd.prog) (st := st) (x := x) (K := K) (f := 1) Tryd.underlying83 rfl sz81 (by decide)
theorem fi83_1 {K : PV → Prop} : fieldK Tryd.prog st 83 x 1 K = bindO (st.ev x) (fieldP Tryd.prog 81 1 K) :=
  field_ (P := Tryd.prog) (st := st) (x := x) (K := K) (f := 1) Tryd.underlying83 rfl
theorem bld83 {l : List (Nat × Operand)} {K : PV → Prop} : buildK Tryd.prog st 83 l K = bindO (evParts st l) fun ps => (ps.all fun e => match e.2 with | .tup _ => false | _ => true) = true ∧ bindO (fillP (fun i => [(0, 1), (1, 1)][i]?) [.val (.bool false), .val (.slice none 0 0)] ps) fun cs => K (.agg cs) :=
  buildC Tryd.underlying83 z83 (by kernel_rfl) rfl rfl
-- 84: func(int64) chevalref02.N
-- 85: func(value.Value, []string, func([]string, value.Value) bool) bool
-- 86: func(value.Value, []string, func(*value.Value, int)) (value.Value, api.Errno)
-- 87: *value.Value
theorem rdo87 {cs : List PV} {off : Nat} : readCells Tryd.prog 87 cs off = cs[off]? := rd_one ag87
theorem alc87 {K : PS → Prop} : stepN dr Tryd.prog ⟨d, .alloc 87, ty, pos, af, g⟩ st id tk K = K (PS.put { st with heap := (id, .box 87 [.val (.pointer none)]) :: st.heap } d (.ptr id 0)) := s_allocC z87 rfl rfl
theorem mki87 {K : PS → Prop} : stepN dr Tryd.prog ⟨d, .makeInterface 87 x, ty, pos, af, g⟩ st id tk K = bindO (st.ev x) fun p => K (st.put d (.iface 87 p)) := s_makeIface Tryd.underlying87 rfl
-- 88: func(*value.Value, int)
theorem rdo88 {cs : List PV} {off : Nat} : readCells Tryd.prog 88 cs off = cs[off]? := rd_one ag88
-- 89: func([]value.Value, int, int) []value.Value
-- 90: func([]string, int, int) []string
-- 91: func([]value.Value, func(value.Value) bool) bool
-- 92: func(value.Value) bool
-- 94: func(string) (int, bool)
-- 95: func(string, string) []string
-- 97: func(string) (string, int)
-- 99: func(string) ([]int, int)
-- 100: func([]string, func(string) bool) bool
-- 101: func([]string, string) (int, bool)
-- 102: func([]string, int, ...string) []string
-- 103: func([]value.Value, int, ...value.Value) []value.Value
-- 104: func([]value.Value) []value.Value
-- 105: Error
-- 106: error
theorem rdo106 {cs : List PV} {off : Nat} : readCells Tryd.prog 106 cs off = cs[off]? := rd_one ag106
theorem alc106 {K : PS → Prop} : stepN dr Tryd.prog ⟨d, .alloc 106, ty, pos, af, g⟩ st id tk K = K (PS.put { st with heap := (id, .box 106 [.val (.nilIface)]) :: st.heap } d (.ptr id 0)) := s_allocC z106 rfl rfl
theorem ifx106 : (∃ ms, Tryd.prog.underlying 106 = some (.interface ms)) = True := eq_true ⟨_, Tryd.underlying106⟩
-- 108: func(string) (int, error)
-- 109: func(int) string
-- 110: func([]string) []string
-- 111: func([]value.Value, func(value.Value) bool) int
-- 112: func(string, func(int)) int
-- 113: func(int)
theorem rdo113 {cs : List PV} {off : Nat} : readCells Tryd.prog 113 cs off = cs[off]? := rd_one ag113
-- 114: func(string, string, int, int) []string
-- 115: *strings.Builder
-- 116: struct { addr *strings.Builder; buf []uint8 }
-- 117: strings.Builder
-- 118: func(uint8) error
-- 119: func() string
-- 121: func(string, int) (int, int)
-- 122: func([]string, func(string) bool) int
-- 123: uint
theorem rdo123 {cs : List PV} {off : Nat} : readCells Tryd.prog 123 cs off = cs[off]? := rd_one ag123
theorem alc123 {K : PS → Prop} : stepN dr Tryd.prog ⟨d, .alloc 123, ty, pos, af, g⟩ st id tk K = K (PS.put { st with heap := (id, .box 123 [.val (.int .u64 0)]) :: st.heap } d (.ptr id 0)) := s_allocC z123 rfl rfl
theorem mki123 {K : PS → Prop} : stepN dr Tryd.prog ⟨d, .makeInterface 123 x, ty, pos, af, g⟩ st id tk K = bindO (st.ev x) fun p => K (st.put d (.iface 123 p)) := s_makeIface Tryd.underlying123 rfl
-- 124: func(string, string) bool
-- 125: func([]string, int)
-- 126: func([]value.Value, []value.Value) bool
-- 127: func([]value.Value, int)
-- 128: func(string, string, int, int, error) error
-- 129: func(string) (int, int)
-- 130: func(string, int) []string
-- 131: func(string, string) int
-- 132: *uint8
theorem rdo132 {cs : List PV} {off : Nat} : readCells Tryd.prog 132 cs off = cs[off]? := rd_one ag132
theorem alc132 {K : PS → Prop} : stepN dr Tryd.prog ⟨d, .alloc 132, ty, pos, af, g⟩ st id tk K = K (PS.put { st with heap := (id, .box 132 [.val (.pointer none)]) :: st.heap } d (.ptr id 0)) := s_allocC z132 rfl rfl
theorem mki132 {K : PS → Prop} : stepN dr Tryd.prog ⟨d, .makeInterface 132 x, ty, pos, af, g⟩ st id tk K = bindO (st.ev x) fun p => K (st.put d (.iface 132 p)) := s_makeIface Tryd.underlying132 rfl
-- 133: [5]int
theorem rda133 {cs : List PV} {off : Nat} : readCells Tryd.prog 133 cs off = if off + 5 ≤ cs.length then some (.agg ((cs.drop off).take 5)) else none := rd_agg ag133 sz133
theorem alc133 {K : PS → Prop} : stepN dr Tryd.prog ⟨d, .alloc 133, ty, pos, af, g⟩ st id tk K = K (PS.put { st with heap := (id, .box 133 [.val (.int .i64 0), .val (.int .i64 0), .val (.int .i64 0), .val (.int .i64 0), .val (.int .i64 0)]) :: st.heap } d (.ptr id 0)) := s_allocC z133 rfl rfl
theorem lns133 {K : PV → Prop} : lenK Tryd.prog st 133 x K = K (.val (.int .i64 (5 : Nat))) := len_array Tryd.underlying133
theorem ixs133 {K : PV → Prop} : indexAddrK Tryd.prog st 133 x y K = bindO (st.ev x) fun p => bindO (st.ev y) fun q => intK q fun i => ixA 1 5 i K p := ix_array Tryd.underlying133 sz3
theorem bld133 {l : List (Nat × Operand)} {K : PV → Prop} : buildK Tryd.prog st 133 l K = bindO (evParts st l) fun ps => (ps.all fun e => match e.2 with | .tup _ => false | _ => true) = true ∧ bindO (fillP (fun i => some (i * 1, 1)) [.val (.int .i64 0), .val (.int .i64 0), .val (.int .i64 0), .val (.int .i64 0), .val (.int .i64 0)] ps) fun cs => K (.agg cs) :=
  buildA Tryd.underlying133 z133 sz3 rfl rfl
-- 134: func(int) bool
-- 135: func(int) []int
-- 136: strconv.Error
theorem rdo136 {cs : List PV} {off : Nat} : readCells Tryd.prog 136 cs off = cs[off]? := rd_one ag136
theorem alc136 {K : PS → Prop} : stepN dr Tryd.prog ⟨d, .alloc 136, ty, pos, af, g⟩ st id tk K = K (PS.put { st with heap := (id, .box 136 [.val (.int .i64 0)]) :: st.heap } d (.ptr id 0)) := s_allocC z136 rfl rfl
theorem mki136 {K : PS → Prop} : stepN dr Tryd.prog ⟨d, .makeInterface 136 x, ty, pos, af, g⟩ st id tk K = bindO (st.ev x) fun p => K (st.put d (.iface 136 p)) := s_makeIface Tryd.underlying136 rfl
-- 138: func(string, int, int) (int64, error)
-- 139: *strconv.NumError
theorem rdo139 {cs : List PV} {off : Nat} : readCells Tryd.prog 139 cs off = cs[off]? := rd_one ag139
theorem alc139 {K : PS → Prop} : stepN dr Tryd.prog ⟨d, .alloc 139, ty, pos, af, g⟩ st id tk K = K (PS.put { st with heap := (id, .box 139 [.val (.pointer none)]) :: st.heap } d (.ptr id 0)) := s_allocC z139 rfl rfl
theorem mki139 {K : PS → Prop} : stepN dr Tryd.prog ⟨d, .makeInterface 139 x, ty, pos, af, g⟩ st id tk K = bindO (st.ev x) fun p => K (st.put d (.iface 139 p)) := s_makeIface Tryd.underlying139 rfl
-- 140: func(string, string) *strconv.NumError
-- 141: func(string, string, int) *strconv.NumError
-- 142: func(int64, int) string
-- 143: func(int32) int
-- 144: func(string) int
-- 146: func(string) (int32, int)
-- 147: func(string, uint8) int
-- 149: func(unsafe.Pointer) unsafe.Pointer
-- 150: func([]string)
-- 151: func([]value.Value)
-- 152: uint64
theorem rdo152 {cs : List PV} {off : Nat} : readCells Tryd.prog 152 cs off = cs[off]? := rd_one ag152
theorem alc152 {K : PS → Prop} : stepN dr Tryd.prog ⟨d, .alloc 152, ty, pos, af, g⟩ st id tk K = K (PS.put { st with heap := (id, .box 152 [.val (.int .u64 0)]) :: st.heap } d (.ptr id 0)) := s_allocC z152 rfl rfl
theorem mki152 {K : PS → Prop} : stepN dr Tryd.prog ⟨d, .makeInterface 152 x, ty, pos, af, g⟩ st id tk K = bindO (st.ev x) fun p => K (st.put d (.iface 152 p)) := s_makeIface Tryd.underlying152 rfl
-- 154: func(string, int, int) (uint64, error)
-- 155: struct { Func string; Num string; Err error }
-- 156: strconv.NumError
theorem rda156 {cs : List PV} {off : Nat} : readCells Tryd.prog 156 cs off = if off + 3 ≤ cs.length then some (.agg ((cs.drop off).take 3)) else none := rd_agg ag156 sz156
theorem alc156 {K : PS → Prop} : stepN dr Tryd.prog ⟨d, .alloc 156, ty, pos, af, g⟩ st id tk K = K (PS.put { st with heap := (id, .box 156 [.val (.string ByteArray.empty), .val (.string ByteArray.empty), .val (.nilIface)]) :: st.heap } d (.ptr id 0)) := s_allocC z156 rfl rfl
theorem mki156 {K : PS → Prop} : stepN dr Tryd.prog ⟨d, .makeInterface 156 x, ty, pos, af, g⟩ st id tk K = bindO (st.ev x) fun p => K (st.put d (.iface 156 p)) := s_makeIface Tryd.underlying156 rfl
theorem fa156_0 {K : PV → Prop} : fieldAddrK Tryd.prog st 156 x 0 K = bindO (st.ev x) (fldP 0 K) :=
  fld_ (P := Tryd.prog) (st := st) (x := x) (K := K) (f := 0) Tryd.underlying156 rfl sz9 (by decide)
theorem fi156_0 {K : PV → Prop} : fieldK Tryd.prog st 156 x 0 K = bindO (st.ev x) (fieldP Tryd.prog 9 0 K) :=
  field_ (P := Tryd.prog) (st := st) (x := x) (K := K) (f := 0) Tryd.underlying156 rfl
theorem fa156_1 {K : PV → Prop} : fieldAddrK Tryd.prog st 156 x 1 K = bindO (st.ev x) (fldP 1 K) :=
  fld_ (P := Tryd.prog) (st := st) (x := x) (K := K) (f := 1) Tryd.underlying156 rfl sz9 (by decide)
theorem fi156_1 {K : PV → Prop} : fieldK Tryd.prog st 156 x 1 K = bindO (st.ev x) (fieldP Tryd.prog 9 1 K) :=
  field_ (P := Tryd.prog) (st := st) (x := x) (K := K) (f := 1) Tryd.underlying156 rfl
theorem fa156_2 {K : PV → Prop} : fieldAddrK Tryd.prog st 156 x 2 K = bindO (st.ev x) (fldP 2 K) :=
  fld_ (P := Tryd.prog) (st := st) (x := x) (K := K) (f := 2) Tryd.underlying156 rfl sz106 (by decide)
theorem fi156_2 {K : PV → Prop} : fieldK Tryd.prog st 156 x 2 K = bindO (st.ev x) (fieldP Tryd.prog 106 2 K) :=
  field_ (P := Tryd.prog) (st := st) (x := x) (K := K) (f := 2) Tryd.underlying156 rfl
theorem bld156 {l : List (Nat × Operand)} {K : PV → Prop} : buildK Tryd.prog st 156 l K = bindO (evParts st l) fun ps => (ps.all fun e => match e.2 with | .tup _ => false | _ => true) = true ∧ bindO (fillP (fun i => [(0, 1), (1, 1), (2, 1)][i]?) [.val (.string ByteArray.empty), .val (.string ByteArray.empty), .val (.nilIface)] ps) fun cs => K (.agg cs) :=
  buildC Tryd.underlying156 z156 (by kernel_rfl) rfl rfl
-- 157: func(string) error
-- 158: [24]uint8
theorem rda158 {cs : List PV} {off : Nat} : readCells Tryd.prog 158 cs off = if off + 24 ≤ cs.length then some (.agg ((cs.drop off).take 24)) else none := rd_agg ag158 sz158
theorem alc158 {K : PS → Prop} : stepN dr Tryd.prog ⟨d, .alloc 158, ty, pos, af, g⟩ st id tk K = K (PS.put { st with heap := (id, .box 158 [.val (.int .u8 0), .val (.int .u8 0), .val (.int .u8 0), .val (.int .u8 0), .val (.int .u8 0), .val (.int .u8 0), .val (.int .u8 0), .val (.int .u8 0), .val (.int .u8 0), .val (.int .u8 0), .val (.int .u8 0), .val (.int .u8 0), .val (.int .u8 0), .val (.int .u8 0), .val (.int .u8 0), .val (.int .u8 0), .val (.int .u8 0), .val (.int .u8 0), .val (.int .u8 0), .val (.int .u8 0), .val (.int .u8 0), .val (.int .u8 0), .val (.int .u8 0), .val (.int .u8 0)]) :: st.heap } d (.ptr id 0)) := s_allocC z158 rfl rfl
theorem lns158 {K : PV → Prop} : lenK Tryd.prog st 158 x K = K (.val (.int .i64 (24 : Nat))) := len_array Tryd.underlying158
theorem ixs158 {K : PV → Prop} : indexAddrK Tryd.prog st 158 x y K = bindO (st.ev x) fun p => bindO (st.ev y) fun q => intK q fun i => ixA 1 24 i K p := ix_array Tryd.underlying158 sz5
theorem bld158 {l : List (Nat × Operand)} {K : PV → Prop} : buildK Tryd.prog st 158 l K = bindO (evParts st l) fun ps => (ps.all fun e => match e.2 with | .tup _ => false | _ => true) = true ∧ bindO (fillP (fun i => some (i * 1, 1)) [.val (.int .u8 0), .val (.int .u8 0), .val (.int .u8 0), .val (.int .u8 0), .val (.int .u8 0), .val (.int .u8 0), .val (.int .u8 0), .val (.int .u8 0), .val (.int .u8 0), .val (.int .u8 0), .val (.int .u8 0), .val (.int .u8 0), .val (.int .u8 0), .val (.int .u8 0), .val (.int .u8 0), .val (.int .u8 0), .val (.int .u8 0), .val (.int .u8 0), .val (.int .u8 0), .val (.int .u8 0), .val (.int .u8 0), .val (.int .u8 0), .val (.int .u8 0), .val (.int .u8 0)] ps) fun cs => K (.agg cs) :=
  buildA Tryd.underlying158 z158 sz5 rfl rfl
-- 159: func(uint64) int
-- 160: func([]uint8, uint64)
-- 162: func([]uint8, uint64, int, bool, bool) ([]uint8, string)
-- 163: func(int) int
-- 164: func(uint8) uint8
-- 165: *errors.errorString
theorem rdo165 {cs : List PV} {off : Nat} : readCells Tryd.prog 165 cs off = cs[off]? := rd_one ag165
theorem alc165 {K : PS → Prop} : stepN dr Tryd.prog ⟨d, .alloc 165, ty, pos, af, g⟩ st id tk K = K (PS.put { st with heap := (id, .box 165 [.val (.pointer none)]) :: st.heap } d (.ptr id 0)) := s_allocC z165 rfl rfl
theorem mki165 {K : PS → Prop} : stepN dr Tryd.prog ⟨d, .makeInterface 165 x, ty, pos, af, g⟩ st id tk K = bindO (st.ev x) fun p => K (st.put d (.iface 165 p)) := s_makeIface Tryd.underlying165 rfl
-- 166: struct { s string }
-- 167: errors.errorString
theorem rda167 {cs : List PV} {off : Nat} : readCells Tryd.prog 167 cs off = if off + 1 ≤ cs.length then some (.agg ((cs.drop off).take 1)) else none := rd_agg ag167 sz167
theorem alc167 {K : PS → Prop} : stepN dr Tryd.prog ⟨d, .alloc 167, ty, pos, af, g⟩ st id tk K = K (PS.put { st with heap := (id, .box 167 [.val (.string ByteArray.empty)]) :: st.heap } d (.ptr id 0)) := s_allocC z167 rfl rfl
theorem mki167 {K : PS → Prop} : stepN dr Tryd.prog ⟨d, .makeInterface 167 x, ty, pos, af, g⟩ st id tk K = bindO (st.ev x) fun p => K (st.put d (.iface 167 p)) := s_makeIface Tryd.underlying167 rfl
theorem fa167_0 {K : PV → Prop} : fieldAddrK Tryd.prog st 167 x 0 K = bindO (st.ev x) (fldP 0 K) :=
  fld_ (P := Tryd.prog) (st := st) (x := x) (K := K) (f := 0) Tryd.underlying167 rfl sz9 (by decide)
theorem fi167_0 {K : PV → Prop} : fieldK Tryd.prog st 167 x 0 K = bindO (st.ev x) (fieldP Tryd.prog 9 0 K) :=
  field_ (P := Tryd.prog) (st := st) (x := x) (K := K) (f := 0) Tryd.underlying167 rfl
theorem bld167 {l : List (Nat × Operand)} {K : PV → Prop} : buildK Tryd.prog st 167 l K = bindO (evParts st l) fun ps => (ps.all fun e => match e.2 with | .tup _ => false | _ => true) = true ∧ bindO (fillP (fun i => [(0, 1)][i]?) [.val (.string ByteArray.empty)] ps) fun cs => K (.agg cs) :=
  buildC Tryd.underlying167 z167 (by kernel_rfl) rfl rfl
-- 168: func(bool) int
-- 169: [20]uint64
theorem rda169 {cs : List PV} {off : Nat} : readCells Tryd.prog 169 cs off = if off + 20 ≤ cs.length then some (.agg ((cs.drop off).take 20)) else none := rd_agg ag169 sz169
theorem alc169 {K : PS → Prop} : stepN dr Tryd.prog ⟨d, .alloc 169, ty, pos, af, g⟩ st id tk K = K (PS.put { st with heap := (id, .box 169 [.val (.int .u64 0), .val (.int .u64 0), .val (.int .u64 0), .val (.int .u64 0), .val (.int .u64 0), .val (.int .u64 0), .val (.int .u64 0), .val (.int .u64 0), .val (.int .u64 0), .val (.int .u64 0), .val (.int .u64 0), .val (.int .u64 0), .val (.int .u64 0), .val (.int .u64 0), .val (.int .u64 0), .val (.int .u64 0), .val (.int .u64 0), .val (.int .u64 0), .val (.int .u64 0), .val (.int .u64 0)]) :: st.heap } d (.ptr id 0)) := s_allocC z169 rfl rfl
theorem lns169 {K : PV → Prop} : lenK Tryd.prog st 169 x K = K (.val (.int .i64 (20 : Nat))) := len_array Tryd.underlying169
theorem ixs169 {K : PV → Prop} : indexAddrK Tryd.prog st 169 x y K = bindO (st.ev x) fun p => bindO (st.ev y) fun q => intK q fun i => ixA 1 20 i K p := ix_array Tryd.underlying169 sz152
theorem bld169 {l : List (Nat × Operand)} {K : PV → Prop} : buildK Tryd.prog st 169 l K = bindO (evParts st l) fun ps => (ps.all fun e => match e.2 with | .tup _ => false | _ => true) = true ∧ bindO (fillP (fun i => some (i * 1, 1)) [.val (.int .u64 0), .val (.int .u64 0), .val (.int .u64 0), .val (.int .u64 0), .val (.int .u64 0), .val (.int .u64 0), .val (.int .u64 0), .val (.int .u64 0), .val (.int .u64 0), .val (.int .u64 0), .val (.int .u64 0), .val (.int .u64 0), .val (.int .u64 0), .val (.int .u64 0), .val (.int .u64 0), .val (.int .u64 0), .val (.int .u64 0), .val (.int .u64 0), .val (.int .u64 0), .val (.int .u64 0)] ps) fun cs => K (.agg cs) :=
  buildA Tryd.underlying169 z169 sz152 rfl rfl
-- 170: uint32
theorem rdo170 {cs : List PV} {off : Nat} : readCells Tryd.prog 170 cs off = cs[off]? := rd_one ag170
theorem alc170 {K : PS → Prop} : stepN dr Tryd.prog ⟨d, .alloc 170, ty, pos, af, g⟩ st id tk K = K (PS.put { st with heap := (id, .box 170 [.val (.int .u32 0)]) :: st.heap } d (.ptr id 0)) := s_allocC z170 rfl rfl
theorem mki170 {K : PS → Prop} : stepN dr Tryd.prog ⟨d, .makeInterface 170 x, ty, pos, af, g⟩ st id tk K = bindO (st.ev x) fun p => K (st.put d (.iface 170 p)) := s_makeIface Tryd.underlying170 rfl
-- 172: func(uint) int
-- 174: struct { lo uint8; hi uint8 }
-- 175: utf8.acceptRange
-- 176: [16]utf8.acceptRange
-- 178: func(string) (uint32, uint32)
-- 179: func(uint32) int
-- 180: [32]uint8
theorem rda180 {cs : List PV} {off : Nat} : readCells Tryd.prog 180 cs off = if off + 32 ≤ cs.length then some (.agg ((cs.drop off).take 32)) else none := rd_agg ag180 sz180
theorem alc180 {K : PS → Prop} : stepN dr Tryd.prog ⟨d, .alloc 180, ty, pos, af, g⟩ st id tk K = K (PS.put { st with heap := (id, .box 180 [.val (.int .u8 0), .val (.int .u8 0), .val (.int .u8 0), .val (.int .u8 0), .val (.int .u8 0), .val (.int .u8 0), .val (.int .u8 0), .val (.int .u8 0), .val (.int .u8 0), .val (.int .u8 0), .val (.int .u8 0), .val (.int .u8 0), .val (.int .u8 0), .val (.int .u8 0), .val (.int .u8 0), .val (.int .u8 0), .val (.int .u8 0), .val (.int .u8 0), .val (.int .u8 0), .val (.int .u8 0), .val (.int .u8 0), .val (.int .u8 0), .val (.int .u8 0), .val (.int .u8 0), .val (.int .u8 0), .val (.int .u8 0), .val (.int .u8 0), .val (.int .u8 0), .val (.int .u8 0), .val (.int .u8 0), .val (.int .u8 0), .val (.int .u8 0)]) :: st.heap } d (.ptr id 0)) := s_allocC z180 rfl rfl
theorem lns180 {K : PV → Prop} : lenK Tryd.prog st 180 x K = K (.val (.int .i64 (32 : Nat))) := len_array Tryd.underlying180
theorem ixs180 {K : PV → Prop} : indexAddrK Tryd.prog st 180 x y K = bindO (st.ev x) fun p => bindO (st.ev y) fun q => intK q fun i => ixA 1 32 i K p := ix_array Tryd.underlying180 sz5
theorem bld180 {l : List (Nat × Operand)} {K : PV → Prop} : buildK Tryd.prog st 180 l K = bindO (evParts st l) fun ps => (ps.all fun e => match e.2 with | .tup _ => false | _ => true) = true ∧ bindO (fillP (fun i => some (i * 1, 1)) [.val (.int .u8 0), .val (.int .u8 0), .val (.int .u8 0), .val (.int .u8 0), .val (.int .u8 0), .val (.int .u8 0), .val (.int .u8 0), .val (.int .u8 0), .val (.int .u8 0), .val (.int .u8 0), .val (.int .u8 0), .val (.int .u8 0), .val (.int .u8 0), .val (.int .u8 0), .val (.int .u8 0), .val (.int .u8 0), .val (.int .u8 0), .val (.int .u8 0), .val (.int .u8 0), .val (.int .u8 0), .val (.int .u8 0), .val (.int .u8 0), .val (.int .u8 0), .val (.int .u8 0), .val (.int .u8 0), .val (.int .u8 0), .val (.int .u8 0), .val (.int .u8 0), .val (.int .u8 0), .val (.int .u8 0), .val (.int .u8 0), .val (.int .u8 0)] ps) fun cs => K (.agg cs) :=
  buildA Tryd.underlying180 z180 sz5 rfl rfl
-- 181: [64]uint8
theorem rda181 {cs : List PV} {off : Nat} : readCells Tryd.prog 181 cs off = if off + 64 ≤ cs.length then some (.agg ((cs.drop off).take 64)) else none := rd_agg ag181 sz181
theorem alc181 {K : PS → Prop} : stepN dr Tryd.prog ⟨d, .alloc 181, ty, pos, af, g⟩ st id tk K = K (PS.put { st with heap := (id, .box 181 [.val (.int .u8 0), .val (.int .u8 0), .val (.int .u8 0), .val (.int .u8 0), .val (.int .u8 0), .val (.int .u8 0), .val (.int .u8 0), .val (.int .u8 0), .val (.int .u8 0), .val (.int .u8 0), .val (.int .u8 0), .val (.int .u8 0), .val (.int .u8 0), .val (.int .u8 0), .val (.int .u8 0), .val (.int .u8 0), .val (.int .u8 0), .val (.int .u8 0), .val (.int .u8 0), .val (.int .u8 0), .val (.int .u8 0), .val (.int .u8 0), .val (.int .u8 0), .val (.int .u8 0), .val (.int .u8 0), .val (.int .u8 0), .val (.int .u8 0), .val (.int .u8 0), .val (.int .u8 0), .val (.int .u8 0), .val (.int .u8 0), .val (.int .u8 0), .val (.int .u8 0), .val (.int .u8 0), .val (.int .u8 0), .val (.int .u8 0), .val (.int .u8 0), .val (.int .u8 0), .val (.int .u8 0), .val (.int .u8 0), .val (.int .u8 0), .val (.int .u8 0), .val (.int .u8 0), .val (.int .u8 0), .val (.int .u8 0), .val (.int .u8 0), .val (.int .u8 0), .val (.int .u8 0), .val (.int .u8 0), .val (.int .u8 0), .val (.int .u8 0), .val (.int .u8 0), .val (.int .u8 0), .val (.int .u8 0), .val (.int .u8 0), .val (.int .u8 0), .val (.int .u8 0), .val (.int .u8 0), .val (.int .u8 0), .val (.int .u8 0), .val (.int .u8 0), .val (.int .u8 0), .val (.int .u8 0), .val (.int .u8 0)]) :: st.heap } d (.ptr id 0)) := s_allocC z181 rfl rfl
theorem lns181 {K : PV → Prop} : lenK Tryd.prog st 181 x K = K (.val (.int .i64 (64 : Nat))) := len_array Tryd.underlying181
theorem ixs181 {K : PV → Prop} : indexAddrK Tryd.prog st 181 x y K = bindO (st.ev x) fun p => bindO (st.ev y) fun q => intK q fun i => ixA 1 64 i K p := ix_array Tryd.underlying181 sz5
theorem bld181 {l : List (Nat × Operand)} {K : PV → Prop} : buildK Tryd.prog st 181 l K = bindO (evParts st l) fun ps => (ps.all fun e => match e.2 with | .tup _ => false | _ => true) = true ∧ bindO (fillP (fun i => some (i * 1, 1)) [.val (.int .u8 0), .val (.int .u8 0), .val (.int .u8 0), .val (.int .u8 0), .val (.int .u8 0), .val (.int .u8 0), .val (.int .u8 0), .val (.int .u8 0), .val (.int .u8 0), .val (.int .u8 0), .val (.int .u8 0), .val (.int .u8 0), .val (.int .u8 0), .val (.int .u8 0), .val (.int .u8 0), .val (.int .u8 0), .val (.int .u8 0), .val (.int .u8 0), .val (.int .u8 0), .val (.int .u8 0), .val (.int .u8 0), .val (.int .u8 0), .val (.int .u8 0), .val (.int .u8 0), .val (.int .u8 0), .val (.int .u8 0), .val (.int .u8 0), .val (.int .u8 0), .val (.int .u8 0), .val (.int .u8 0), .val (.int .u8 0), .val (.int .u8 0), .val (.int .u8 0), .val (.int .u8 0), .val (.int .u8 0), .val (.int .u8 0), .val (.int .u8 0), .val (.int .u8 0), .val (.int .u8 0), .val (.int .u8 0), .val (.int .u8 0), .val (.int .u8 0), .val (.int .u8 0), .val (.int .u8 0), .val (.int .u8 0), .val (.int .u8 0), .val (.int .u8 0), .val (.int .u8 0), .val (.int .u8 0), .val (.int .u8 0), .val (.int .u8 0), .val (.int .u8 0), .val (.int .u8 0), .val (.int .u8 0), .val (.int .u8 0), .val (.int .u8 0), .val (.int .u8 0), .val (.int .u8 0), .val (.int .u8 0), .val (.int .u8 0), .val (.int .u8 0), .val (.int .u8 0), .val (.int .u8 0), .val (.int .u8 0)] ps) fun cs => K (.agg cs) :=
  buildA Tryd.underlying181 z181 sz5 rfl rfl
-- 184: [0]*runtime.PanicNilError
-- 185: struct { _ [0]*runtime.PanicNilError }
-- 187: func() int
-- 190: func(unsafe.Pointer, unsafe.Pointer) bool
attribute [go_sem ↓] alc2 mki2 alc3 mki3 alc4 alc5 mki5 alc9 mki9 rng9 lns9 ixs9 sls9 alc20 alc21 mki21 alc22 lns22 ixs22 sls22 app22 bs22 mks22 alc23 lns23 ixs23 sls23 app23 bs23 mks23 alc26 lns26 ixs26 sls26 app26 bs26 mks26 alc28 mki28 fa28_0 fi28_0 fa28_1 fi28_1 fa28_2 fi28_2 fa28_3 fi28_3 fa28_4 fi28_4 fa28_5 fi28_5 bld28 alc30 lns30 ixs30 sls30 app30 bs30 mks30 alc32 mki32 fa32_0 fi32_0 fa32_1 fi32_1 fa32_2 fi32_2 fa32_3 fi32_3 fa32_4 fi32_4 fa32_5 fi32_5 bld32 alc33 mki33 alc42 lns42 ixs42 sls42 app42 bs42 mks42 alc49 mki49 fa49_0 fi49_0 fa49_1 fi49_1 bld49 alc52 mki52 alc54 mki54 fa54_0 fi54_0 fa54_1 fi54_1 bld54 alc59 lns59 ixs59 bld59 alc71 lns71 ixs71 sls71 aps71 cvr71 app71 bs71 mks71 alc73 mki73 fa73_0 fi73_0 fa73_1 fi73_1 fa73_2 fi73_2 fa73_3 fi73_3 fa73_4 fi73_4 bld73 alc81 lns81 ixs81 sls81 app81 bs81 mks81 alc83 mki83 fa83_0 fi83_0 fa83_1 fi83_1 bld83 alc87 mki87 alc106 alc123 mki123 alc132 mki132 alc133 lns133 ixs133 bld133 alc136 mki136 alc139 mki139 alc152 mki152 alc156 mki156 fa156_0 fi156_0 fa156_1 fi156_1 fa156_2 fi156_2 bld156 alc158 lns158 ixs158 bld158 alc165 mki165 alc167 mki167 fa167_0 fi167_0 bld167 alc169 lns169 ixs169 bld169 alc170 mki170 alc180 lns180 ixs180 bld180 alc181 lns181 ixs181 bld181
attribute [go_sem] rdo2 sz2 Tryd.underlying2 rdo3 sz3 Tryd.underlying3 rdo4 sz4 Tryd.underlying4 rdo5 sz5 Tryd.underlying5 rdo9 sz9 Tryd.underlying9 rdo20 sz20 ifx20 rdo21 sz21 Tryd.underlying21 rdo22 sz22 rdo23 sz23 rdo26 sz26 rda28 sz28 rdo30 sz30 rda32 sz32 rdo33 sz33 Tryd.underlying33 rdo42 sz42 rda49 sz49 rdo52 sz52 Tryd.underlying52 rda54 sz54 rda59 sz59 rdo67 sz67 rdo71 sz71 isb71 Tryd.underlying71 rda73 sz73 rdo81 sz81 rda83 sz83 rdo87 sz87 rdo88 sz88 rdo106 sz106 ifx106 rdo113 sz113 rdo123 sz123 Tryd.underlying123 rdo132 sz132 rda133 sz133 rdo136 sz136 Tryd.underlying136 rdo139 sz139 rdo152 sz152 Tryd.underlying152 rda156 sz156 rda158 sz158 rdo165 sz165 rda167 sz167 rda169 sz169 rdo170 sz170 Tryd.underlying170 rda180 sz180 rda181 sz181
end Go.Proofs.YtahgjolokkfhjaaDoor
