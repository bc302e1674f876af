import Derived.Test.YtegehnojbfedlaaDoorProg
import Derived.Test.YtegehnojbfedlaaDoorGA4
/-
  The types of this seat's program: sizes, zero values, the rules by which their operations are rewritten.
-/
namespace Go.Proofs.YtegehnojbfedlaaDoor
open Go Go.Pw
set_option linter.unusedVariables false
set_option maxRecDepth 4000
theorem ag2 : aggT Tryd.prog 2 = some false := by kernel_rfl
theorem sz2 : sizeOf? Tryd.prog 2 = some 1 := by kernel_rfl
theorem z2 : zeroOf? Tryd.prog 2 = some (.int .i64 0) := by kernel_rfl
theorem by2 : bytesOf? Tryd.prog 2 = some 8 := by kernel_rfl
theorem ag3 : aggT Tryd.prog 3 = some false := by kernel_rfl
theorem sz3 : sizeOf? Tryd.prog 3 = some 1 := by kernel_rfl
theorem z3 : zeroOf? Tryd.prog 3 = some (.int .i64 0) := by kernel_rfl
theorem by3 : bytesOf? Tryd.prog 3 = some 8 := by kernel_rfl
theorem ag4 : aggT Tryd.prog 4 = some false := by kernel_rfl
theorem sz4 : sizeOf? Tryd.prog 4 = some 1 := by kernel_rfl
theorem z4 : zeroOf? Tryd.prog 4 = some (.bool false) := by kernel_rfl
theorem by4 : bytesOf? Tryd.prog 4 = some 1 := by kernel_rfl
theorem ag5 : aggT Tryd.prog 5 = some false := by kernel_rfl
theorem sz5 : sizeOf? Tryd.prog 5 = some 1 := by kernel_rfl
theorem z5 : zeroOf? Tryd.prog 5 = some (.int .u8 0) := by kernel_rfl
theorem by5 : bytesOf? Tryd.prog 5 = some 1 := by kernel_rfl
theorem ag9 : aggT Tryd.prog 9 = some false := by kernel_rfl
theorem sz9 : sizeOf? Tryd.prog 9 = some 1 := by kernel_rfl
theorem z9 : zeroOf? Tryd.prog 9 = some (.string ByteArray.empty) := by kernel_rfl
theorem by9 : bytesOf? Tryd.prog 9 = some 16 := by kernel_rfl
theorem ag20 : aggT Tryd.prog 20 = some false := by kernel_rfl
theorem sz20 : sizeOf? Tryd.prog 20 = some 1 := by kernel_rfl
theorem z20 : zeroOf? Tryd.prog 20 = some (.nilIface) := by kernel_rfl
theorem ag21 : aggT Tryd.prog 21 = some false := by kernel_rfl
theorem sz21 : sizeOf? Tryd.prog 21 = some 1 := by kernel_rfl
theorem z21 : zeroOf? Tryd.prog 21 = some (.int .i32 0) := by kernel_rfl
theorem by21 : bytesOf? Tryd.prog 21 = some 4 := by kernel_rfl
theorem ag22 : aggT Tryd.prog 22 = some false := by kernel_rfl
theorem sz22 : sizeOf? Tryd.prog 22 = some 1 := by kernel_rfl
theorem z22 : zeroOf? Tryd.prog 22 = some (.slice none 0 0) := by kernel_rfl
theorem by22 : bytesOf? Tryd.prog 22 = some 24 := by kernel_rfl
theorem ag23 : aggT Tryd.prog 23 = some false := by kernel_rfl
theorem sz23 : sizeOf? Tryd.prog 23 = some 1 := by kernel_rfl
theorem z23 : zeroOf? Tryd.prog 23 = some (.slice none 0 0) := by kernel_rfl
theorem by23 : bytesOf? Tryd.prog 23 = some 24 := by kernel_rfl
theorem ag25 : aggT Tryd.prog 25 = some true := by kernel_rfl
theorem sz25 : sizeOf? Tryd.prog 25 = some 4 := by kernel_rfl
theorem z25 : zeroOf? Tryd.prog 25 = some (.agg #[.string ByteArray.empty, .slice none 0 0, .slice none 0 0, .string ByteArray.empty]) := by kernel_rfl
theorem by25 : bytesOf? Tryd.prog 25 = some 80 := by kernel_rfl
theorem ag26 : aggT Tryd.prog 26 = some false := by kernel_rfl
theorem sz26 : sizeOf? Tryd.prog 26 = some 1 := by kernel_rfl
theorem z26 : zeroOf? Tryd.prog 26 = some (.slice none 0 0) := by kernel_rfl
theorem by26 : bytesOf? Tryd.prog 26 = some 24 := by kernel_rfl
theorem z31 : zeroOf? Tryd.prog 31 = some (.nilFunc) := by kernel_rfl
theorem ag32 : aggT Tryd.prog 32 = some true := by kernel_rfl
theorem sz32 : sizeOf? Tryd.prog 32 = some 5 := by kernel_rfl
theorem z32 : zeroOf? Tryd.prog 32 = some (.agg #[.string ByteArray.empty, .string ByteArray.empty, .string ByteArray.empty, .string ByteArray.empty, .string ByteArray.empty]) := by kernel_rfl
theorem by32 : bytesOf? Tryd.prog 32 = some 80 := by kernel_rfl
theorem ag33 : aggT Tryd.prog 33 = some true := by kernel_rfl
theorem sz33 : sizeOf? Tryd.prog 33 = some 4 := by kernel_rfl
theorem z33 : zeroOf? Tryd.prog 33 = some (.agg #[.string ByteArray.empty, .slice none 0 0, .slice none 0 0, .string ByteArray.empty]) := by kernel_rfl
theorem by33 : bytesOf? Tryd.prog 33 = some 80 := by kernel_rfl
theorem ag34 : aggT Tryd.prog 34 = some false := by kernel_rfl
theorem sz34 : sizeOf? Tryd.prog 34 = some 1 := by kernel_rfl
theorem z34 : zeroOf? Tryd.prog 34 = some (.int .i64 0) := by kernel_rfl
theorem by34 : bytesOf? Tryd.prog 34 = some 8 := by kernel_rfl
theorem z37 : zeroOf? Tryd.prog 37 = some (.nilFunc) := by kernel_rfl
theorem ag42 : aggT Tryd.prog 42 = some false := by kernel_rfl
theorem sz42 : sizeOf? Tryd.prog 42 = some 1 := by kernel_rfl
theorem z42 : zeroOf? Tryd.prog 42 = some (.slice none 0 0) := by kernel_rfl
theorem by42 : bytesOf? Tryd.prog 42 = some 24 := by kernel_rfl
theorem ag44 : aggT Tryd.prog 44 = some true := by kernel_rfl
theorem sz44 : sizeOf? Tryd.prog 44 = some 2 := by kernel_rfl
theorem z44 : zeroOf? Tryd.prog 44 = some (.agg #[.bool false, .slice none 0 0]) := by kernel_rfl
theorem by44 : bytesOf? Tryd.prog 44 = some 32 := by kernel_rfl
theorem z46 : zeroOf? Tryd.prog 46 = some (.nilFunc) := by kernel_rfl
theorem ag51 : aggT Tryd.prog 51 = some false := by kernel_rfl
theorem sz51 : sizeOf? Tryd.prog 51 = some 1 := by kernel_rfl
theorem z51 : zeroOf? Tryd.prog 51 = some (.nilFunc) := by kernel_rfl
theorem z53 : zeroOf? Tryd.prog 53 = some (.nilFunc) := by kernel_rfl
theorem ag54 : aggT Tryd.prog 54 = some false := by kernel_rfl
theorem sz54 : sizeOf? Tryd.prog 54 = some 1 := by kernel_rfl
theorem z54 : zeroOf? Tryd.prog 54 = some (.pointer none) := by kernel_rfl
theorem by54 : bytesOf? Tryd.prog 54 = some 8 := by kernel_rfl
theorem ag56 : aggT Tryd.prog 56 = some true := by kernel_rfl
theorem sz56 : sizeOf? Tryd.prog 56 = some 2 := by kernel_rfl
theorem z56 : zeroOf? Tryd.prog 56 = some (.agg #[.string ByteArray.empty, .int .i64 0]) := by kernel_rfl
theorem by56 : bytesOf? Tryd.prog 56 = some 24 := by kernel_rfl
theorem ag60 : aggT Tryd.prog 60 = some true := by kernel_rfl
theorem sz60 : sizeOf? Tryd.prog 60 = some 3 := by kernel_rfl
theorem z60 : zeroOf? Tryd.prog 60 = some (.agg #[.int .i64 0, .int .i64 0, .bool false]) := by kernel_rfl
theorem by60 : bytesOf? Tryd.prog 60 = some 24 := by kernel_rfl
theorem z70 : zeroOf? Tryd.prog 70 = some (.nilFunc) := by kernel_rfl
theorem z72 : zeroOf? Tryd.prog 72 = some (.nilFunc) := by kernel_rfl
theorem z75 : zeroOf? Tryd.prog 75 = some (.nilFunc) := by kernel_rfl
theorem z76 : zeroOf? Tryd.prog 76 = some (.nilFunc) := by kernel_rfl
theorem ag78 : aggT Tryd.prog 78 = some false := by kernel_rfl
theorem sz78 : sizeOf? Tryd.prog 78 = some 1 := by kernel_rfl
theorem z78 : zeroOf? Tryd.prog 78 = some (.nilIface) := by kernel_rfl
theorem by78 : bytesOf? Tryd.prog 78 = some 16 := by kernel_rfl
theorem z80 : zeroOf? Tryd.prog 80 = some (.nilFunc) := by kernel_rfl
theorem z85 : zeroOf? Tryd.prog 85 = some (.nilFunc) := by kernel_rfl
theorem ag87 : aggT Tryd.prog 87 = some false := by kernel_rfl
theorem sz87 : sizeOf? Tryd.prog 87 = some 1 := by kernel_rfl
theorem z87 : zeroOf? Tryd.prog 87 = some (.pointer none) := by kernel_rfl
theorem by87 : bytesOf? Tryd.prog 87 = some 8 := by kernel_rfl
theorem ag94 : aggT Tryd.prog 94 = some false := by kernel_rfl
theorem sz94 : sizeOf? Tryd.prog 94 = some 1 := by kernel_rfl
theorem z94 : zeroOf? Tryd.prog 94 = some (.pointer none) := by kernel_rfl
theorem by94 : bytesOf? Tryd.prog 94 = some 8 := by kernel_rfl
theorem ag96 : aggT Tryd.prog 96 = some true := by kernel_rfl
theorem sz96 : sizeOf? Tryd.prog 96 = some 2 := by kernel_rfl
theorem z96 : zeroOf? Tryd.prog 96 = some (.agg #[.pointer none, .slice none 0 0]) := by kernel_rfl
theorem by96 : bytesOf? Tryd.prog 96 = some 32 := by kernel_rfl
theorem z105 : zeroOf? Tryd.prog 105 = some (.nilFunc) := by kernel_rfl
theorem ag109 : aggT Tryd.prog 109 = some false := by kernel_rfl
theorem sz109 : sizeOf? Tryd.prog 109 = some 1 := by kernel_rfl
theorem z109 : zeroOf? Tryd.prog 109 = some (.pointer none) := by kernel_rfl
theorem by109 : bytesOf? Tryd.prog 109 = some 8 := by kernel_rfl
theorem ag113 : aggT Tryd.prog 113 = some false := by kernel_rfl
theorem sz113 : sizeOf? Tryd.prog 113 = some 1 := by kernel_rfl
theorem z113 : zeroOf? Tryd.prog 113 = some (.int .u64 0) := by kernel_rfl
theorem by113 : bytesOf? Tryd.prog 113 = some 8 := by kernel_rfl
theorem ag114 : aggT Tryd.prog 114 = some false := by kernel_rfl
theorem sz114 : sizeOf? Tryd.prog 114 = some 1 := by kernel_rfl
theorem z114 : zeroOf? Tryd.prog 114 = some (.int .i64 0) := by kernel_rfl
theorem by114 : bytesOf? Tryd.prog 114 = some 8 := by kernel_rfl
theorem ag115 : aggT Tryd.prog 115 = some false := by kernel_rfl
theorem sz115 : sizeOf? Tryd.prog 115 = some 1 := by kernel_rfl
theorem z115 : zeroOf? Tryd.prog 115 = some (.int .u64 0) := by kernel_rfl
theorem by115 : bytesOf? Tryd.prog 115 = some 8 := by kernel_rfl
theorem z117 : zeroOf? Tryd.prog 117 = some (.nilFunc) := by kernel_rfl
theorem ag118 : aggT Tryd.prog 118 = some false := by kernel_rfl
theorem sz118 : sizeOf? Tryd.prog 118 = some 1 := by kernel_rfl
theorem z118 : zeroOf? Tryd.prog 118 = some (.pointer none) := by kernel_rfl
theorem by118 : bytesOf? Tryd.prog 118 = some 8 := by kernel_rfl
theorem z119 : zeroOf? Tryd.prog 119 = some (.nilFunc) := by kernel_rfl
theorem ag124 : aggT Tryd.prog 124 = some true := by kernel_rfl
theorem sz124 : sizeOf? Tryd.prog 124 = some 24 := by kernel_rfl
theorem z124 : zeroOf? Tryd.prog 124 = some (.agg #[.int .u8 0, .int .u8 0, .int .u8 0, .int .u8 0, .int .u8 0, .int .u8 0, .int .u8 0, .int .u8 0, .int .u8 0, .int .u8 0, .int .u8 0, .int .u8 0, .int .u8 0, .int .u8 0, .int .u8 0, .int .u8 0, .int .u8 0, .int .u8 0, .int .u8 0, .int .u8 0, .int .u8 0, .int .u8 0, .int .u8 0, .int .u8 0]) := by kernel_rfl
theorem by124 : bytesOf? Tryd.prog 124 = some 24 := by kernel_rfl
theorem ag136 : aggT Tryd.prog 136 = some true := by kernel_rfl
theorem sz136 : sizeOf? Tryd.prog 136 = some 3 := by kernel_rfl
theorem z136 : zeroOf? Tryd.prog 136 = some (.agg #[.string ByteArray.empty, .string ByteArray.empty, .nilIface]) := by kernel_rfl
theorem by136 : bytesOf? Tryd.prog 136 = some 48 := by kernel_rfl
theorem z139 : zeroOf? Tryd.prog 139 = some (.agg #[.int .u8 0, .int .u8 0]) := by kernel_rfl
theorem ag140 : aggT Tryd.prog 140 = some true := by kernel_rfl
theorem sz140 : sizeOf? Tryd.prog 140 = some 2 := by kernel_rfl
theorem z140 : zeroOf? Tryd.prog 140 = some (.agg #[.int .u8 0, .int .u8 0]) := by kernel_rfl
theorem by140 : bytesOf? Tryd.prog 140 = some 2 := by kernel_rfl
theorem ag141 : aggT Tryd.prog 141 = some true := by kernel_rfl
theorem sz141 : sizeOf? Tryd.prog 141 = some 32 := by kernel_rfl
theorem z141 : zeroOf? Tryd.prog 141 = some (.agg #[.int .u8 0, .int .u8 0, .int .u8 0, .int .u8 0, .int .u8 0, .int .u8 0, .int .u8 0, .int .u8 0, .int .u8 0, .int .u8 0, .int .u8 0, .int .u8 0, .int .u8 0, .int .u8 0, .int .u8 0, .int .u8 0, .int .u8 0, .int .u8 0, .int .u8 0, .int .u8 0, .int .u8 0, .int .u8 0, .int .u8 0, .int .u8 0, .int .u8 0, .int .u8 0, .int .u8 0, .int .u8 0, .int .u8 0, .int .u8 0, .int .u8 0, .int .u8 0]) := by kernel_rfl
theorem by141 : bytesOf? Tryd.prog 141 = some 32 := by kernel_rfl
theorem ag143 : aggT Tryd.prog 143 = some true := by kernel_rfl
theorem sz143 : sizeOf? Tryd.prog 143 = some 20 := by kernel_rfl
theorem z143 : zeroOf? Tryd.prog 143 = some (.agg #[.int .u64 0, .int .u64 0, .int .u64 0, .int .u64 0, .int .u64 0, .int .u64 0, .int .u64 0, .int .u64 0, .int .u64 0, .int .u64 0, .int .u64 0, .int .u64 0, .int .u64 0, .int .u64 0, .int .u64 0, .int .u64 0, .int .u64 0, .int .u64 0, .int .u64 0, .int .u64 0]) := by kernel_rfl
theorem by143 : bytesOf? Tryd.prog 143 = some 160 := by kernel_rfl
theorem ag144 : aggT Tryd.prog 144 = some false := by kernel_rfl
theorem sz144 : sizeOf? Tryd.prog 144 = some 1 := by kernel_rfl
theorem z144 : zeroOf? Tryd.prog 144 = some (.int .u32 0) := by kernel_rfl
theorem by144 : bytesOf? Tryd.prog 144 = some 4 := by kernel_rfl
theorem ag147 : aggT Tryd.prog 147 = some false := by kernel_rfl
theorem sz147 : sizeOf? Tryd.prog 147 = some 1 := by kernel_rfl
theorem z147 : zeroOf? Tryd.prog 147 = some (.pointer none) := by kernel_rfl
theorem by147 : bytesOf? Tryd.prog 147 = some 8 := by kernel_rfl
theorem ag149 : aggT Tryd.prog 149 = some true := by kernel_rfl
theorem sz149 : sizeOf? Tryd.prog 149 = some 1 := by kernel_rfl
theorem z149 : zeroOf? Tryd.prog 149 = some (.agg #[.string ByteArray.empty]) := by kernel_rfl
theorem by149 : bytesOf? Tryd.prog 149 = some 16 := by kernel_rfl
theorem ag151 : aggT Tryd.prog 151 = some true := by kernel_rfl
theorem sz151 : sizeOf? Tryd.prog 151 = some 32 := by kernel_rfl
theorem z151 : zeroOf? Tryd.prog 151 = some (.agg #[.int .u8 0, .int .u8 0, .int .u8 0, .int .u8 0, .int .u8 0, .int .u8 0, .int .u8 0, .int .u8 0, .int .u8 0, .int .u8 0, .int .u8 0, .int .u8 0, .int .u8 0, .int .u8 0, .int .u8 0, .int .u8 0, .int .u8 0, .int .u8 0, .int .u8 0, .int .u8 0, .int .u8 0, .int .u8 0, .int .u8 0, .int .u8 0, .int .u8 0, .int .u8 0, .int .u8 0, .int .u8 0, .int .u8 0, .int .u8 0, .int .u8 0, .int .u8 0]) := by kernel_rfl
theorem by151 : bytesOf? Tryd.prog 151 = some 32 := by kernel_rfl
theorem ag152 : aggT Tryd.prog 152 = some true := by kernel_rfl
theorem sz152 : sizeOf? Tryd.prog 152 = some 64 := by kernel_rfl
theorem z152 : zeroOf? Tryd.prog 152 = some (.agg #[.int .u8 0, .int .u8 0, .int .u8 0, .int .u8 0, .int .u8 0, .int .u8 0, .int .u8 0, .int .u8 0, .int .u8 0, .int .u8 0, .int .u8 0, .int .u8 0, .int .u8 0, .int .u8 0, .int .u8 0, .int .u8 0, .int .u8 0, .int .u8 0, .int .u8 0, .int .u8 0, .int .u8 0, .int .u8 0, .int .u8 0, .int .u8 0, .int .u8 0, .int .u8 0, .int .u8 0, .int .u8 0, .int .u8 0, .int .u8 0, .int .u8 0, .int .u8 0, .int .u8 0, .int .u8 0, .int .u8 0, .int .u8 0, .int .u8 0, .int .u8 0, .int .u8 0, .int .u8 0, .int .u8 0, .int .u8 0, .int .u8 0, .int .u8 0, .int .u8 0, .int .u8 0, .int .u8 0, .int .u8 0, .int .u8 0, .int .u8 0, .int .u8 0, .int .u8 0, .int .u8 0, .int .u8 0, .int .u8 0, .int .u8 0, .int .u8 0, .int .u8 0, .int .u8 0, .int .u8 0, .int .u8 0, .int .u8 0, .int .u8 0, .int .u8 0]) := by kernel_rfl
theorem by152 : bytesOf? Tryd.prog 152 = some 64 := by kernel_rfl
-- 1: func()
-- 2: int64
theorem rdo2 {cs : List PV} {off : Nat} : readCells Tryd.prog 2 cs off = cs[off]? := rd_one ag2
theorem alc2 {dr : Bool} {st : PS} {id tk : Nat} {K : PS → Prop} {d : Option Tmp} {ty : TypeId} {pos : String} {af : Array Edge} {g : Option (Nat × Bool)} : stepN dr Tryd.prog ⟨d, .alloc 2, ty, pos, af, g⟩ st id tk K = K (PS.put { st with heap := (id, .box 2 [.val (.int .i64 0)]) :: st.heap } d (.ptr id 0)) := s_allocC z2 rfl rfl
theorem mki2 {dr : Bool} {st : PS} {id tk : Nat} {K : PS → Prop} {d : Option Tmp} {ty : TypeId} {pos : String} {af : Array Edge} {g : Option (Nat × Bool)} {x : Operand} : stepN dr Tryd.prog ⟨d, .makeInterface 2 x, ty, pos, af, g⟩ st id tk K = bindO (st.ev x) fun p => K (st.put d (.iface 2 p)) := s_makeIface Tryd.underlying2 rfl
-- 3: int
theorem rdo3 {cs : List PV} {off : Nat} : readCells Tryd.prog 3 cs off = cs[off]? := rd_one ag3
theorem alc3 {dr : Bool} {st : PS} {id tk : Nat} {K : PS → Prop} {d : Option Tmp} {ty : TypeId} {pos : String} {af : Array Edge} {g : Option (Nat × Bool)} : stepN dr Tryd.prog ⟨d, .alloc 3, ty, pos, af, g⟩ st id tk K = K (PS.put { st with heap := (id, .box 3 [.val (.int .i64 0)]) :: st.heap } d (.ptr id 0)) := s_allocC z3 rfl rfl
theorem mki3 {dr : Bool} {st : PS} {id tk : Nat} {K : PS → Prop} {d : Option Tmp} {ty : TypeId} {pos : String} {af : Array Edge} {g : Option (Nat × Bool)} {x : Operand} : stepN dr Tryd.prog ⟨d, .makeInterface 3 x, ty, pos, af, g⟩ st id tk K = bindO (st.ev x) fun p => K (st.put d (.iface 3 p)) := s_makeIface Tryd.underlying3 rfl
-- 4: bool
theorem rdo4 {cs : List PV} {off : Nat} : readCells Tryd.prog 4 cs off = cs[off]? := rd_one ag4
theorem alc4 {dr : Bool} {st : PS} {id tk : Nat} {K : PS → Prop} {d : Option Tmp} {ty : TypeId} {pos : String} {af : Array Edge} {g : Option (Nat × Bool)} : stepN dr Tryd.prog ⟨d, .alloc 4, ty, pos, af, g⟩ st id tk K = K (PS.put { st with heap := (id, .box 4 [.val (.bool false)]) :: st.heap } d (.ptr id 0)) := s_allocC z4 rfl rfl
-- 5: uint8
theorem rdo5 {cs : List PV} {off : Nat} : readCells Tryd.prog 5 cs off = cs[off]? := rd_one ag5
theorem alc5 {dr : Bool} {st : PS} {id tk : Nat} {K : PS → Prop} {d : Option Tmp} {ty : TypeId} {pos : String} {af : Array Edge} {g : Option (Nat × Bool)} : stepN dr Tryd.prog ⟨d, .alloc 5, ty, pos, af, g⟩ st id tk K = K (PS.put { st with heap := (id, .box 5 [.val (.int .u8 0)]) :: st.heap } d (.ptr id 0)) := s_allocC z5 rfl rfl
theorem mki5 {dr : Bool} {st : PS} {id tk : Nat} {K : PS → Prop} {d : Option Tmp} {ty : TypeId} {pos : String} {af : Array Edge} {g : Option (Nat × Bool)} {x : Operand} : stepN dr Tryd.prog ⟨d, .makeInterface 5 x, ty, pos, af, g⟩ st id tk K = bindO (st.ev x) fun p => K (st.put d (.iface 5 p)) := s_makeIface Tryd.underlying5 rfl
-- 9: string
theorem rdo9 {cs : List PV} {off : Nat} : readCells Tryd.prog 9 cs off = cs[off]? := rd_one ag9
theorem alc9 {dr : Bool} {st : PS} {id tk : Nat} {K : PS → Prop} {d : Option Tmp} {ty : TypeId} {pos : String} {af : Array Edge} {g : Option (Nat × Bool)} : stepN dr Tryd.prog ⟨d, .alloc 9, ty, pos, af, g⟩ st id tk K = K (PS.put { st with heap := (id, .box 9 [.val (.string ByteArray.empty)]) :: st.heap } d (.ptr id 0)) := s_allocC z9 rfl rfl
theorem mki9 {dr : Bool} {st : PS} {id tk : Nat} {K : PS → Prop} {d : Option Tmp} {ty : TypeId} {pos : String} {af : Array Edge} {g : Option (Nat × Bool)} {x : Operand} : stepN dr Tryd.prog ⟨d, .makeInterface 9 x, ty, pos, af, g⟩ st id tk K = bindO (st.ev x) fun p => K (st.put d (.iface 9 p)) := s_makeIface Tryd.underlying9 rfl
theorem rng9 {dr : Bool} {st : PS} {id tk : Nat} {K : PS → Prop} {d : Option Tmp} {ty : TypeId} {pos : String} {af : Array Edge} {g : Option (Nat × Bool)} {x : Operand} : stepN dr Tryd.prog ⟨d, .range 9 x, ty, pos, af, g⟩ st id tk K = bindO (st.ev x) (rngP id d st K) := s_range Tryd.underlying9
theorem lns9 {st : PS} {x : Operand} {K : PV → Prop} : lenK Tryd.prog st 9 x K = bindO (st.ev x) (lenS K) := len_string Tryd.underlying9
theorem ixs9 {st : PS} {x y : Operand} {K : PV → Prop} : indexK Tryd.prog st 9 x y K = bindO (st.ev x) fun p => bindO (st.ev y) fun q => intK q fun i => ixS i K p := ix_string Tryd.underlying9
theorem sls9 {st : PS} {x : Operand} {lo hi : Option Operand} {K : PV → Prop} : sliceK Tryd.prog st 9 x lo hi K = bindO (st.ev x) (slcS st lo hi K) := slc_string Tryd.underlying9
-- 12: uintptr
-- 13: struct { msg string; addr uintptr }
-- 20: interface {}
theorem rdo20 {cs : List PV} {off : Nat} : readCells Tryd.prog 20 cs off = cs[off]? := rd_one ag20
theorem alc20 {dr : Bool} {st : PS} {id tk : Nat} {K : PS → Prop} {d : Option Tmp} {ty : TypeId} {pos : String} {af : Array Edge} {g : Option (Nat × Bool)} : stepN dr Tryd.prog ⟨d, .alloc 20, ty, pos, af, g⟩ st id tk K = K (PS.put { st with heap := (id, .box 20 [.val (.nilIface)]) :: st.heap } d (.ptr id 0)) := s_allocC z20 rfl rfl
theorem ifx20 : (∃ ms, Tryd.prog.underlying 20 = some (.interface ms)) = True := eq_true ⟨_, Tryd.underlying20⟩
-- 21: int32
theorem rdo21 {cs : List PV} {off : Nat} : readCells Tryd.prog 21 cs off = cs[off]? := rd_one ag21
theorem alc21 {dr : Bool} {st : PS} {id tk : Nat} {K : PS → Prop} {d : Option Tmp} {ty : TypeId} {pos : String} {af : Array Edge} {g : Option (Nat × Bool)} : stepN dr Tryd.prog ⟨d, .alloc 21, ty, pos, af, g⟩ st id tk K = K (PS.put { st with heap := (id, .box 21 [.val (.int .i32 0)]) :: st.heap } d (.ptr id 0)) := s_allocC z21 rfl rfl
theorem mki21 {dr : Bool} {st : PS} {id tk : Nat} {K : PS → Prop} {d : Option Tmp} {ty : TypeId} {pos : String} {af : Array Edge} {g : Option (Nat × Bool)} {x : Operand} : stepN dr Tryd.prog ⟨d, .makeInterface 21 x, ty, pos, af, g⟩ st id tk K = bindO (st.ev x) fun p => K (st.put d (.iface 21 p)) := s_makeIface Tryd.underlying21 rfl
-- 22: []string
theorem rdo22 {cs : List PV} {off : Nat} : readCells Tryd.prog 22 cs off = cs[off]? := rd_one ag22
theorem alc22 {dr : Bool} {st : PS} {id tk : Nat} {K : PS → Prop} {d : Option Tmp} {ty : TypeId} {pos : String} {af : Array Edge} {g : Option (Nat × Bool)} : stepN dr Tryd.prog ⟨d, .alloc 22, ty, pos, af, g⟩ st id tk K = K (PS.put { st with heap := (id, .box 22 [.val (.slice none 0 0)]) :: st.heap } d (.ptr id 0)) := s_allocC z22 rfl rfl
theorem lns22 {st : PS} {x : Operand} {K : PV → Prop} : lenK Tryd.prog st 22 x K = bindO (st.ev x) (lenP K) := len_slice Tryd.underlying22
theorem ixs22 {st : PS} {x y : Operand} {K : PV → Prop} : indexAddrK Tryd.prog st 22 x y K = bindO (st.ev x) fun p => bindO (st.ev y) fun q => intK q fun i => ixP 1 i K p := ix_slice Tryd.underlying22 sz9
theorem sls22 {st : PS} {x : Operand} {lo hi : Option Operand} {K : PV → Prop} : sliceK Tryd.prog st 22 x lo hi K = bindO (st.ev x) (slcP 1 st lo hi K) := slc_slice Tryd.underlying22 sz9
theorem app22 {st : PS} {tk : Nat} {x y : Operand} {K : Delta → Prop} : appendK Tryd.prog st tk ⟨.builtin .append, #[x, y], #[22, 22]⟩ K = bindO (st.ev x) fun d => bindO (st.ev y) fun s => bindO (srcXs st 1 s) fun ys0 => bindO (fzLL ys0) fun ys => (∀ y ∈ ys, y.length = 1) ∧ appT 9 1 16 st tk K d ys :=
  append_t Tryd.underlying22 sz9 by9 z9 rfl (by decide)
theorem bs22 {dr : Bool} {st : PS} {id tk n : Nat} {K : PS → Prop} {d : Option Tmp} {ty : TypeId} {pos : String} {af : Array Edge} {g : Option (Nat × Bool)} {l : List (Nat × Operand)} :
    stepN dr Tryd.prog ⟨d, .buildSlice 22 n l.toArray, ty, pos, af, g⟩ st id tk K = bindO (evParts st l) fun ps => bindO (valsOf ps 0) fun xs => (∀ x ∈ xs, x.length = 1) ∧ xs.length = n ∧ n * 1 ≤ 16777216 ∧ K (PS.put { st with toks := upd st.toks tk ⟨9, 1, n⟩ } d (.row tk xs)) :=
  s_buildSlice Tryd.underlying22 sz9 z9 (by decide) rfl
theorem mks22 {dr : Bool} {st : PS} {id tk : Nat} {K : PS → Prop} {d : Option Tmp} {ty : TypeId} {pos : String} {af : Array Edge} {g : Option (Nat × Bool)} {l c : Operand} : stepN dr Tryd.prog ⟨d, .makeSlice 22 l c, ty, pos, af, g⟩ st id tk K = bindO (st.ev l) fun p => bindO (st.ev c) fun q => intK p fun n => intK q fun m => n = m ∧ 0 ≤ n ∧ n ≤ 9223372036854775807 ∧ 16 * n ≤ 281474976710656 ∧
    K (PS.put { st with heap := (id, .box 9 ((List.range (n.toNat * 1)).map fun i => [.val (.string ByteArray.empty)].getD (i % 1) (.val .nilIface))) :: st.heap } d (.ms id 0 n.toNat n.toNat)) :=
  s_makeSlice Tryd.underlying22 sz9 by9 z9 rfl rfl (by decide) rfl
-- 23: []int64
theorem rdo23 {cs : List PV} {off : Nat} : readCells Tryd.prog 23 cs off = cs[off]? := rd_one ag23
theorem alc23 {dr : Bool} {st : PS} {id tk : Nat} {K : PS → Prop} {d : Option Tmp} {ty : TypeId} {pos : String} {af : Array Edge} {g : Option (Nat × Bool)} : stepN dr Tryd.prog ⟨d, .alloc 23, ty, pos, af, g⟩ st id tk K = K (PS.put { st with heap := (id, .box 23 [.val (.slice none 0 0)]) :: st.heap } d (.ptr id 0)) := s_allocC z23 rfl rfl
theorem lns23 {st : PS} {x : Operand} {K : PV → Prop} : lenK Tryd.prog st 23 x K = bindO (st.ev x) (lenP K) := len_slice Tryd.underlying23
theorem ixs23 {st : PS} {x y : Operand} {K : PV → Prop} : indexAddrK Tryd.prog st 23 x y K = bindO (st.ev x) fun p => bindO (st.ev y) fun q => intK q fun i => ixP 1 i K p := ix_slice Tryd.underlying23 sz2
theorem sls23 {st : PS} {x : Operand} {lo hi : Option Operand} {K : PV → Prop} : sliceK Tryd.prog st 23 x lo hi K = bindO (st.ev x) (slcP 1 st lo hi K) := slc_slice Tryd.underlying23 sz2
theorem app23 {st : PS} {tk : Nat} {x y : Operand} {K : Delta → Prop} : appendK Tryd.prog st tk ⟨.builtin .append, #[x, y], #[23, 23]⟩ K = bindO (st.ev x) fun d => bindO (st.ev y) fun s => bindO (srcXs st 1 s) fun ys0 => bindO (fzLL ys0) fun ys => (∀ y ∈ ys, y.length = 1) ∧ appT 2 1 8 st tk K d ys :=
  append_t Tryd.underlying23 sz2 by2 z2 rfl (by decide)
theorem bs23 {dr : Bool} {st : PS} {id tk n : Nat} {K : PS → Prop} {d : Option Tmp} {ty : TypeId} {pos : String} {af : Array Edge} {g : Option (Nat × Bool)} {l : List (Nat × Operand)} :
    stepN dr Tryd.prog ⟨d, .buildSlice 23 n l.toArray, ty, pos, af, g⟩ st id tk K = bindO (evParts st l) fun ps => bindO (valsOf ps 0) fun xs => (∀ x ∈ xs, x.length = 1) ∧ xs.length = n ∧ n * 1 ≤ 16777216 ∧ K (PS.put { st with toks := upd st.toks tk ⟨2, 1, n⟩ } d (.row tk xs)) :=
  s_buildSlice Tryd.underlying23 sz2 z2 (by decide) rfl
theorem mks23 {dr : Bool} {st : PS} {id tk : Nat} {K : PS → Prop} {d : Option Tmp} {ty : TypeId} {pos : String} {af : Array Edge} {g : Option (Nat × Bool)} {l c : Operand} : stepN dr Tryd.prog ⟨d, .makeSlice 23 l c, ty, pos, af, g⟩ st id tk K = bindO (st.ev l) fun p => bindO (st.ev c) fun q => intK p fun n => intK q fun m => n = m ∧ 0 ≤ n ∧ n ≤ 9223372036854775807 ∧ 8 * n ≤ 281474976710656 ∧
    K (PS.put { st with heap := (id, .box 2 ((List.range (n.toNat * 1)).map fun i => [.val (.int .i64 0)].getD (i % 1) (.val .nilIface))) :: st.heap } d (.ms id 0 n.toNat n.toNat)) :=
  s_makeSlice Tryd.underlying23 sz2 by2 z2 rfl rfl (by decide) rfl
-- 24: struct { Word string; Names []string; Numbers []int64; Rest string }
-- 25: chevalref25.C
theorem rda25 {cs : List PV} {off : Nat} : readCells Tryd.prog 25 cs off = if off + 4 ≤ cs.length then some (.agg ((cs.drop off).take 4)) else none := rd_agg ag25 sz25
theorem alc25 {dr : Bool} {st : PS} {id tk : Nat} {K : PS → Prop} {d : Option Tmp} {ty : TypeId} {pos : String} {af : Array Edge} {g : Option (Nat × Bool)} : stepN dr Tryd.prog ⟨d, .alloc 25, ty, pos, af, g⟩ st id tk K = K (PS.put { st with heap := (id, .box 25 [.val (.string ByteArray.empty), .val (.slice none 0 0), .val (.slice none 0 0), .val (.string ByteArray.empty)]) :: st.heap } d (.ptr id 0)) := s_allocC z25 rfl rfl
theorem mki25 {dr : Bool} {st : PS} {id tk : Nat} {K : PS → Prop} {d : Option Tmp} {ty : TypeId} {pos : String} {af : Array Edge} {g : Option (Nat × Bool)} {x : Operand} : stepN dr Tryd.prog ⟨d, .makeInterface 25 x, ty, pos, af, g⟩ st id tk K = bindO (st.ev x) fun p => K (st.put d (.iface 25 p)) := s_makeIface Tryd.underlying25 rfl
theorem fa25_0 {st : PS} {x : Operand} {K : PV → Prop} : fieldAddrK Tryd.prog st 25 x 0 K = bindO (st.ev x) (fldP 0 K) :=
  fld_ (P := Tryd.prog) (st := st) (x := x) (K := K) (f := 0) Tryd.underlying25 rfl sz9 (by decide)
theorem fi25_0 {st : PS} {x : Operand} {K : PV → Prop} : fieldK Tryd.prog st 25 x 0 K = bindO (st.ev x) (fieldP Tryd.prog 9 0 K) :=
  field_ (P := Tryd.prog) (st := st) (x := x) (K := K) (f := 0) Tryd.underlying25 rfl
theorem fa25_1 {st : PS} {x : Operand} {K : PV → Prop} : fieldAddrK Tryd.prog st 25 x 1 K = bindO (st.ev x) (fldP 1 K) :=
  fld_ (P := Tryd.prog) (st := st) (x := x) (K := K) (f := 1) Tryd.underlying25 rfl sz22 (by decide)
theorem fi25_1 {st : PS} {x : Operand} {K : PV → Prop} : fieldK Tryd.prog st 25 x 1 K = bindO (st.ev x) (fieldP Tryd.prog 22 1 K) :=
  field_ (P := Tryd.prog) (st := st) (x := x) (K := K) (f := 1) Tryd.underlying25 rfl
theorem fa25_2 {st : PS} {x : Operand} {K : PV → Prop} : fieldAddrK Tryd.prog st 25 x 2 K = bindO (st.ev x) (fldP 2 K) :=
  fld_ (P := Tryd.prog) (st := st) (x := x) (K := K) (f := 2) Tryd.underlying25 rfl sz23 (by decide)
theorem fi25_2 {st : PS} {x : Operand} {K : PV → Prop} : fieldK Tryd.prog st 25 x 2 K = bindO (st.ev x) (fieldP Tryd.prog 23 2 K) :=
  field_ (P := Tryd.prog) (st := st) (x := x) (K := K) (f := 2) Tryd.underlying25 rfl
theorem fa25_3 {st : PS} {x : Operand} {K : PV → Prop} : fieldAddrK Tryd.prog st 25 x 3 K = bindO (st.ev x) (fldP 3 K) :=
  fld_ (P := Tryd.prog) (st := st) (x := x) (K := K) (f := 3) Tryd.underlying25 rfl sz9 (by decide)
theorem fi25_3 {st : PS} {x : Operand} {K : PV → Prop} : fieldK Tryd.prog st 25 x 3 K = bindO (st.ev x) (fieldP Tryd.prog 9 3 K) :=
  field_ (P := Tryd.prog) (st := st) (x := x) (K := K) (f := 3) Tryd.underlying25 rfl
theorem bld25 {st : PS} {l : List (Nat × Operand)} {K : PV → Prop} : buildK Tryd.prog st 25 l K = bindO (evParts st l) fun ps => (ps.all fun e => match e.2 with | .tup _ => false | _ => true) = true ∧ bindO (fillP (fun i => [(0, 1), (1, 1), (2, 1), (3, 1)][i]?) [.val (.string ByteArray.empty), .val (.slice none 0 0), .val (.slice none 0 0), .val (.string ByteArray.empty)] ps) fun cs => K (.agg cs) :=
  buildC Tryd.underlying25 z25 (by kernel_rfl) rfl rfl
-- 26: []uint8
theorem rdo26 {cs : List PV} {off : Nat} : readCells Tryd.prog 26 cs off = cs[off]? := rd_one ag26
theorem alc26 {dr : Bool} {st : PS} {id tk : Nat} {K : PS → Prop} {d : Option Tmp} {ty : TypeId} {pos : String} {af : Array Edge} {g : Option (Nat × Bool)} : stepN dr Tryd.prog ⟨d, .alloc 26, ty, pos, af, g⟩ st id tk K = K (PS.put { st with heap := (id, .box 26 [.val (.slice none 0 0)]) :: st.heap } d (.ptr id 0)) := s_allocC z26 rfl rfl
theorem lns26 {st : PS} {x : Operand} {K : PV → Prop} : lenK Tryd.prog st 26 x K = bindO (st.ev x) (lenP K) := len_slice Tryd.underlying26
theorem ixs26 {st : PS} {x y : Operand} {K : PV → Prop} : indexAddrK Tryd.prog st 26 x y K = bindO (st.ev x) fun p => bindO (st.ev y) fun q => intK q fun i => ixP 1 i K p := ix_slice Tryd.underlying26 sz5
theorem sls26 {st : PS} {x : Operand} {lo hi : Option Operand} {K : PV → Prop} : sliceK Tryd.prog st 26 x lo hi K = bindO (st.ev x) (slcP 1 st lo hi K) := slc_slice Tryd.underlying26 sz5
theorem app26 {st : PS} {tk : Nat} {x y : Operand} {K : Delta → Prop} : appendK Tryd.prog st tk ⟨.builtin .append, #[x, y], #[26, 26]⟩ K = bindO (st.ev x) fun d => bindO (st.ev y) fun s => bindO (srcXs st 1 s) fun ys0 => bindO (fzLL ys0) fun ys => (∀ y ∈ ys, y.length = 1) ∧ appT 5 1 1 st tk K d ys :=
  append_t Tryd.underlying26 sz5 by5 z5 rfl (by decide)
theorem bs26 {dr : Bool} {st : PS} {id tk n : Nat} {K : PS → Prop} {d : Option Tmp} {ty : TypeId} {pos : String} {af : Array Edge} {g : Option (Nat × Bool)} {l : List (Nat × Operand)} :
    stepN dr Tryd.prog ⟨d, .buildSlice 26 n l.toArray, ty, pos, af, g⟩ st id tk K = bindO (evParts st l) fun ps => bindO (valsOf ps 0) fun xs => (∀ x ∈ xs, x.length = 1) ∧ xs.length = n ∧ n * 1 ≤ 16777216 ∧ K (PS.put { st with toks := upd st.toks tk ⟨5, 1, n⟩ } d (.row tk xs)) :=
  s_buildSlice Tryd.underlying26 sz5 z5 (by decide) rfl
theorem isb26 : isBytes Tryd.prog 26 = True := eq_true ⟨5, Tryd.underlying26, Tryd.underlying5⟩
theorem aps26 {st : PS} {tk : Nat} {x y : Operand} {K : Delta → Prop} : appendK Tryd.prog st tk ⟨.builtin .append, #[x, y], #[26, 9]⟩ K = bindO (st.ev x) fun d => bindO (st.ev y) fun s => appS 5 1 st tk K d s :=
  append_s Tryd.underlying26 Tryd.underlying9 sz5 by5 z5
theorem cvr26 {k : Nat} {xs : List Int} {K : PV → Prop} : convK Tryd.prog 26 9 (rowC k xs) K = K (.val (.string (strOfNums xs))) := conv_rowC (by rw [Tryd.underlying26]; rfl) ⟨5, Tryd.underlying26, Tryd.underlying5⟩ Tryd.underlying9
theorem mks26 {dr : Bool} {st : PS} {id tk : Nat} {K : PS → Prop} {d : Option Tmp} {ty : TypeId} {pos : String} {af : Array Edge} {g : Option (Nat × Bool)} {l c : Operand} : stepN dr Tryd.prog ⟨d, .makeSlice 26 l c, ty, pos, af, g⟩ st id tk K = bindO (st.ev l) fun p => bindO (st.ev c) fun q => intK p fun n => intK q fun m => n = m ∧ 0 ≤ n ∧ n ≤ 9223372036854775807 ∧ 1 * n ≤ 281474976710656 ∧
    K (PS.put { st with heap := (id, .box 5 ((List.range (n.toNat * 1)).map fun i => [.val (.int .u8 0)].getD (i % 1) (.val .nilIface))) :: st.heap } d (.ms id 0 n.toNat n.toNat)) :=
  s_makeSlice Tryd.underlying26 sz5 by5 z5 rfl rfl (by decide) rfl
-- 27: func() bool
-- 28: func(chevalref25.C) bool
-- 29: func(chevalref25.C) string
-- 31: func(string) (int, int, bool)
-- 32: [5]string
theorem rda32 {cs : List PV} {off : Nat} : readCells Tryd.prog 32 cs off = if off + 5 ≤ cs.length then some (.agg ((cs.drop off).take 5)) else none := rd_agg ag32 sz32
theorem alc32 {dr : Bool} {st : PS} {id tk : Nat} {K : PS → Prop} {d : Option Tmp} {ty : TypeId} {pos : String} {af : Array Edge} {g : Option (Nat × Bool)} : stepN dr Tryd.prog ⟨d, .alloc 32, ty, pos, af, g⟩ st id tk K = K (PS.put { st with heap := (id, .box 32 [.val (.string ByteArray.empty), .val (.string ByteArray.empty), .val (.string ByteArray.empty), .val (.string ByteArray.empty), .val (.string ByteArray.empty)]) :: st.heap } d (.ptr id 0)) := s_allocC z32 rfl rfl
theorem lns32 {st : PS} {x : Operand} {K : PV → Prop} : lenK Tryd.prog st 32 x K = K (.val (.int .i64 (5 : Nat))) := len_array Tryd.underlying32
theorem ixs32 {st : PS} {x y : Operand} {K : PV → Prop} : indexAddrK Tryd.prog st 32 x y K = bindO (st.ev x) fun p => bindO (st.ev y) fun q => intK q fun i => ixA 1 5 i K p := ix_array Tryd.underlying32 sz9
theorem bld32 {st : PS} {l : List (Nat × Operand)} {K : PV → Prop} : buildK Tryd.prog st 32 l K = bindO (evParts st l) fun ps => (ps.all fun e => match e.2 with | .tup _ => false | _ => true) = true ∧ bindO (fillP (fun i => some (i * 1, 1)) [.val (.string ByteArray.empty), .val (.string ByteArray.empty), .val (.string ByteArray.empty), .val (.string ByteArray.empty), .val (.string ByteArray.empty)] ps) fun cs => K (.agg cs) :=
  buildA Tryd.underlying32 z32 sz9 rfl rfl
-- 33: command.Command
theorem rda33 {cs : List PV} {off : Nat} : readCells Tryd.prog 33 cs off = if off + 4 ≤ cs.length then some (.agg ((cs.drop off).take 4)) else none := rd_agg ag33 sz33
theorem alc33 {dr : Bool} {st : PS} {id tk : Nat} {K : PS → Prop} {d : Option Tmp} {ty : TypeId} {pos : String} {af : Array Edge} {g : Option (Nat × Bool)} : stepN dr Tryd.prog ⟨d, .alloc 33, ty, pos, af, g⟩ st id tk K = K (PS.put { st with heap := (id, .box 33 [.val (.string ByteArray.empty), .val (.slice none 0 0), .val (.slice none 0 0), .val (.string ByteArray.empty)]) :: st.heap } d (.ptr id 0)) := s_allocC z33 rfl rfl
theorem mki33 {dr : Bool} {st : PS} {id tk : Nat} {K : PS → Prop} {d : Option Tmp} {ty : TypeId} {pos : String} {af : Array Edge} {g : Option (Nat × Bool)} {x : Operand} : stepN dr Tryd.prog ⟨d, .makeInterface 33 x, ty, pos, af, g⟩ st id tk K = bindO (st.ev x) fun p => K (st.put d (.iface 33 p)) := s_makeIface Tryd.underlying33 rfl
theorem fa33_0 {st : PS} {x : Operand} {K : PV → Prop} : fieldAddrK Tryd.prog st 33 x 0 K = bindO (st.ev x) (fldP 0 K) :=
  fld_ (P := Tryd.prog) (st := st) (x := x) (K := K) (f := 0) Tryd.underlying33 rfl sz9 (by decide)
theorem fi33_0 {st : PS} {x : Operand} {K : PV → Prop} : fieldK Tryd.prog st 33 x 0 K = bindO (st.ev x) (fieldP Tryd.prog 9 0 K) :=
  field_ (P := Tryd.prog) (st := st) (x := x) (K := K) (f := 0) Tryd.underlying33 rfl
theorem fa33_1 {st : PS} {x : Operand} {K : PV → Prop} : fieldAddrK Tryd.prog st 33 x 1 K = bindO (st.ev x) (fldP 1 K) :=
  fld_ (P := Tryd.prog) (st := st) (x := x) (K := K) (f := 1) Tryd.underlying33 rfl sz22 (by decide)
theorem fi33_1 {st : PS} {x : Operand} {K : PV → Prop} : fieldK Tryd.prog st 33 x 1 K = bindO (st.ev x) (fieldP Tryd.prog 22 1 K) :=
  field_ (P := Tryd.prog) (st := st) (x := x) (K := K) (f := 1) Tryd.underlying33 rfl
theorem fa33_2 {st : PS} {x : Operand} {K : PV → Prop} : fieldAddrK Tryd.prog st 33 x 2 K = bindO (st.ev x) (fldP 2 K) :=
  fld_ (P := Tryd.prog) (st := st) (x := x) (K := K) (f := 2) Tryd.underlying33 rfl sz23 (by decide)
theorem fi33_2 {st : PS} {x : Operand} {K : PV → Prop} : fieldK Tryd.prog st 33 x 2 K = bindO (st.ev x) (fieldP Tryd.prog 23 2 K) :=
  field_ (P := Tryd.prog) (st := st) (x := x) (K := K) (f := 2) Tryd.underlying33 rfl
theorem fa33_3 {st : PS} {x : Operand} {K : PV → Prop} : fieldAddrK Tryd.prog st 33 x 3 K = bindO (st.ev x) (fldP 3 K) :=
  fld_ (P := Tryd.prog) (st := st) (x := x) (K := K) (f := 3) Tryd.underlying33 rfl sz9 (by decide)
theorem fi33_3 {st : PS} {x : Operand} {K : PV → Prop} : fieldK Tryd.prog st 33 x 3 K = bindO (st.ev x) (fieldP Tryd.prog 9 3 K) :=
  field_ (P := Tryd.prog) (st := st) (x := x) (K := K) (f := 3) Tryd.underlying33 rfl
theorem bld33 {st : PS} {l : List (Nat × Operand)} {K : PV → Prop} : buildK Tryd.prog st 33 l K = bindO (evParts st l) fun ps => (ps.all fun e => match e.2 with | .tup _ => false | _ => true) = true ∧ bindO (fillP (fun i => [(0, 1), (1, 1), (2, 1), (3, 1)][i]?) [.val (.string ByteArray.empty), .val (.slice none 0 0), .val (.slice none 0 0), .val (.string ByteArray.empty)] ps) fun cs => K (.agg cs) :=
  buildC Tryd.underlying33 z33 (by kernel_rfl) rfl rfl
-- 34: api.Errno
theorem rdo34 {cs : List PV} {off : Nat} : readCells Tryd.prog 34 cs off = cs[off]? := rd_one ag34
theorem alc34 {dr : Bool} {st : PS} {id tk : Nat} {K : PS → Prop} {d : Option Tmp} {ty : TypeId} {pos : String} {af : Array Edge} {g : Option (Nat × Bool)} : stepN dr Tryd.prog ⟨d, .alloc 34, ty, pos, af, g⟩ st id tk K = K (PS.put { st with heap := (id, .box 34 [.val (.int .i64 0)]) :: st.heap } d (.ptr id 0)) := s_allocC z34 rfl rfl
theorem mki34 {dr : Bool} {st : PS} {id tk : Nat} {K : PS → Prop} {d : Option Tmp} {ty : TypeId} {pos : String} {af : Array Edge} {g : Option (Nat × Bool)} {x : Operand} : stepN dr Tryd.prog ⟨d, .makeInterface 34 x, ty, pos, af, g⟩ st id tk K = bindO (st.ev x) fun p => K (st.put d (.iface 34 p)) := s_makeIface Tryd.underlying34 rfl
-- 36: func(string) (command.Command, int, api.Errno)
-- 37: func(chevalref25.C, chevalref25.C) bool
-- 38: func(command.Command) chevalref25.C
-- 39: func(chevalref25.C, []uint8) bool
-- 40: func(bool, uint8) bool
-- 41: func(chevalref02.N) string
-- 42: []int
theorem rdo42 {cs : List PV} {off : Nat} : readCells Tryd.prog 42 cs off = cs[off]? := rd_one ag42
theorem alc42 {dr : Bool} {st : PS} {id tk : Nat} {K : PS → Prop} {d : Option Tmp} {ty : TypeId} {pos : String} {af : Array Edge} {g : Option (Nat × Bool)} : stepN dr Tryd.prog ⟨d, .alloc 42, ty, pos, af, g⟩ st id tk K = K (PS.put { st with heap := (id, .box 42 [.val (.slice none 0 0)]) :: st.heap } d (.ptr id 0)) := s_allocC z42 rfl rfl
theorem lns42 {st : PS} {x : Operand} {K : PV → Prop} : lenK Tryd.prog st 42 x K = bindO (st.ev x) (lenP K) := len_slice Tryd.underlying42
theorem ixs42 {st : PS} {x y : Operand} {K : PV → Prop} : indexAddrK Tryd.prog st 42 x y K = bindO (st.ev x) fun p => bindO (st.ev y) fun q => intK q fun i => ixP 1 i K p := ix_slice Tryd.underlying42 sz3
theorem sls42 {st : PS} {x : Operand} {lo hi : Option Operand} {K : PV → Prop} : sliceK Tryd.prog st 42 x lo hi K = bindO (st.ev x) (slcP 1 st lo hi K) := slc_slice Tryd.underlying42 sz3
theorem app42 {st : PS} {tk : Nat} {x y : Operand} {K : Delta → Prop} : appendK Tryd.prog st tk ⟨.builtin .append, #[x, y], #[42, 42]⟩ K = bindO (st.ev x) fun d => bindO (st.ev y) fun s => bindO (srcXs st 1 s) fun ys0 => bindO (fzLL ys0) fun ys => (∀ y ∈ ys, y.length = 1) ∧ appT 3 1 8 st tk K d ys :=
  append_t Tryd.underlying42 sz3 by3 z3 rfl (by decide)
theorem bs42 {dr : Bool} {st : PS} {id tk n : Nat} {K : PS → Prop} {d : Option Tmp} {ty : TypeId} {pos : String} {af : Array Edge} {g : Option (Nat × Bool)} {l : List (Nat × Operand)} :
    stepN dr Tryd.prog ⟨d, .buildSlice 42 n l.toArray, ty, pos, af, g⟩ st id tk K = bindO (evParts st l) fun ps => bindO (valsOf ps 0) fun xs => (∀ x ∈ xs, x.length = 1) ∧ xs.length = n ∧ n * 1 ≤ 16777216 ∧ K (PS.put { st with toks := upd st.toks tk ⟨3, 1, n⟩ } d (.row tk xs)) :=
  s_buildSlice Tryd.underlying42 sz3 z3 (by decide) rfl
theorem mks42 {dr : Bool} {st : PS} {id tk : Nat} {K : PS → Prop} {d : Option Tmp} {ty : TypeId} {pos : String} {af : Array Edge} {g : Option (Nat × Bool)} {l c : Operand} : stepN dr Tryd.prog ⟨d, .makeSlice 42 l c, ty, pos, af, g⟩ st id tk K = bindO (st.ev l) fun p => bindO (st.ev c) fun q => intK p fun n => intK q fun m => n = m ∧ 0 ≤ n ∧ n ≤ 9223372036854775807 ∧ 8 * n ≤ 281474976710656 ∧
    K (PS.put { st with heap := (id, .box 3 ((List.range (n.toNat * 1)).map fun i => [.val (.int .i64 0)].getD (i % 1) (.val .nilIface))) :: st.heap } d (.ms id 0 n.toNat n.toNat)) :=
  s_makeSlice Tryd.underlying42 sz3 by3 z3 rfl rfl (by decide) rfl
-- 43: struct { Below bool; Figures []int }
-- 44: chevalref02.N
theorem rda44 {cs : List PV} {off : Nat} : readCells Tryd.prog 44 cs off = if off + 2 ≤ cs.length then some (.agg ((cs.drop off).take 2)) else none := rd_agg ag44 sz44
theorem alc44 {dr : Bool} {st : PS} {id tk : Nat} {K : PS → Prop} {d : Option Tmp} {ty : TypeId} {pos : String} {af : Array Edge} {g : Option (Nat × Bool)} : stepN dr Tryd.prog ⟨d, .alloc 44, ty, pos, af, g⟩ st id tk K = K (PS.put { st with heap := (id, .box 44 [.val (.bool false), .val (.slice none 0 0)]) :: st.heap } d (.ptr id 0)) := s_allocC z44 rfl rfl
theorem mki44 {dr : Bool} {st : PS} {id tk : Nat} {K : PS → Prop} {d : Option Tmp} {ty : TypeId} {pos : String} {af : Array Edge} {g : Option (Nat × Bool)} {x : Operand} : stepN dr Tryd.prog ⟨d, .makeInterface 44 x, ty, pos, af, g⟩ st id tk K = bindO (st.ev x) fun p => K (st.put d (.iface 44 p)) := s_makeIface Tryd.underlying44 rfl
theorem fa44_0 {st : PS} {x : Operand} {K : PV → Prop} : fieldAddrK Tryd.prog st 44 x 0 K = bindO (st.ev x) (fldP 0 K) :=
  fld_ (P := Tryd.prog) (st := st) (x := x) (K := K) (f := 0) Tryd.underlying44 rfl sz4 (by decide)
theorem fi44_0 {st : PS} {x : Operand} {K : PV → Prop} : fieldK Tryd.prog st 44 x 0 K = bindO (st.ev x) (fieldP Tryd.prog 4 0 K) :=
  field_ (P := Tryd.prog) (st := st) (x := x) (K := K) (f := 0) Tryd.underlying44 rfl
theorem fa44_1 {st : PS} {x : Operand} {K : PV → Prop} : fieldAddrK Tryd.prog st 44 x 1 K = bindO (st.ev x) (fldP 1 K) :=
  fld_ (P := Tryd.prog) (st := st) (x := x) (K := K) (f := 1) Tryd.underlying44 rfl sz42 (by decide)
theorem fi44_1 {st : PS} {x : Operand} {K : PV → Prop} : fieldK Tryd.prog st 44 x 1 K = bindO (st.ev x) (fieldP Tryd.prog 42 1 K) :=
  field_ (P := Tryd.prog) (st := st) (x := x) (K := K) (f := 1) Tryd.underlying44 rfl
theorem bld44 {st : PS} {l : List (Nat × Operand)} {K : PV → Prop} : buildK Tryd.prog st 44 l K = bindO (evParts st l) fun ps => (ps.all fun e => match e.2 with | .tup _ => false | _ => true) = true ∧ bindO (fillP (fun i => [(0, 1), (1, 1)][i]?) [.val (.bool false), .val (.slice none 0 0)] ps) fun cs => K (.agg cs) :=
  buildC Tryd.underlying44 z44 (by kernel_rfl) rfl rfl
-- 45: func(int64) chevalref02.N
-- 46: func(chevalref25.C, uint8) bool
-- 47: func() []string
-- 48: func(uint8) bool
-- 50: func(string) (chevalref25.C, int, int)
-- 51: func(string) bool
theorem rdo51 {cs : List PV} {off : Nat} : readCells Tryd.prog 51 cs off = cs[off]? := rd_one ag51
-- 52: func(chevalref25.C) command.Command
-- 53: func() string
-- 54: *command.scanner
theorem rdo54 {cs : List PV} {off : Nat} : readCells Tryd.prog 54 cs off = cs[off]? := rd_one ag54
theorem alc54 {dr : Bool} {st : PS} {id tk : Nat} {K : PS → Prop} {d : Option Tmp} {ty : TypeId} {pos : String} {af : Array Edge} {g : Option (Nat × Bool)} : stepN dr Tryd.prog ⟨d, .alloc 54, ty, pos, af, g⟩ st id tk K = K (PS.put { st with heap := (id, .box 54 [.val (.pointer none)]) :: st.heap } d (.ptr id 0)) := s_allocC z54 rfl rfl
theorem mki54 {dr : Bool} {st : PS} {id tk : Nat} {K : PS → Prop} {d : Option Tmp} {ty : TypeId} {pos : String} {af : Array Edge} {g : Option (Nat × Bool)} {x : Operand} : stepN dr Tryd.prog ⟨d, .makeInterface 54 x, ty, pos, af, g⟩ st id tk K = bindO (st.ev x) fun p => K (st.put d (.iface 54 p)) := s_makeIface Tryd.underlying54 rfl
-- 55: struct { s string; at int }
-- 56: command.scanner
theorem rda56 {cs : List PV} {off : Nat} : readCells Tryd.prog 56 cs off = if off + 2 ≤ cs.length then some (.agg ((cs.drop off).take 2)) else none := rd_agg ag56 sz56
theorem alc56 {dr : Bool} {st : PS} {id tk : Nat} {K : PS → Prop} {d : Option Tmp} {ty : TypeId} {pos : String} {af : Array Edge} {g : Option (Nat × Bool)} : stepN dr Tryd.prog ⟨d, .alloc 56, ty, pos, af, g⟩ st id tk K = K (PS.put { st with heap := (id, .box 56 [.val (.string ByteArray.empty), .val (.int .i64 0)]) :: st.heap } d (.ptr id 0)) := s_allocC z56 rfl rfl
theorem mki56 {dr : Bool} {st : PS} {id tk : Nat} {K : PS → Prop} {d : Option Tmp} {ty : TypeId} {pos : String} {af : Array Edge} {g : Option (Nat × Bool)} {x : Operand} : stepN dr Tryd.prog ⟨d, .makeInterface 56 x, ty, pos, af, g⟩ st id tk K = bindO (st.ev x) fun p => K (st.put d (.iface 56 p)) := s_makeIface Tryd.underlying56 rfl
theorem fa56_0 {st : PS} {x : Operand} {K : PV → Prop} : fieldAddrK Tryd.prog st 56 x 0 K = bindO (st.ev x) (fldP 0 K) :=
  fld_ (P := Tryd.prog) (st := st) (x := x) (K := K) (f := 0) Tryd.underlying56 rfl sz9 (by decide)
theorem fi56_0 {st : PS} {x : Operand} {K : PV → Prop} : fieldK Tryd.prog st 56 x 0 K = bindO (st.ev x) (fieldP Tryd.prog 9 0 K) :=
  field_ (P := Tryd.prog) (st := st) (x := x) (K := K) (f := 0) Tryd.underlying56 rfl
theorem fa56_1 {st : PS} {x : Operand} {K : PV → Prop} : fieldAddrK Tryd.prog st 56 x 1 K = bindO (st.ev x) (fldP 1 K) :=
  fld_ (P := Tryd.prog) (st := st) (x := x) (K := K) (f := 1) Tryd.underlying56 rfl sz3 (by decide)
theorem fi56_1 {st : PS} {x : Operand} {K : PV → Prop} : fieldK Tryd.prog st 56 x 1 K = bindO (st.ev x) (fieldP Tryd.prog 3 1 K) :=
  field_ (P := Tryd.prog) (st := st) (x := x) (K := K) (f := 1) Tryd.underlying56 rfl
theorem bld56 {st : PS} {l : List (Nat × Operand)} {K : PV → Prop} : buildK Tryd.prog st 56 l K = bindO (evParts st l) fun ps => (ps.all fun e => match e.2 with | .tup _ => false | _ => true) = true ∧ bindO (fillP (fun i => [(0, 1), (1, 1)][i]?) [.val (.string ByteArray.empty), .val (.int .i64 0)] ps) fun cs => K (.agg cs) :=
  buildC Tryd.underlying56 z56 (by kernel_rfl) rfl rfl
-- 58: func() (string, int)
-- 59: struct { names int; numbers int; rest bool }
-- 60: command.shape
theorem rda60 {cs : List PV} {off : Nat} : readCells Tryd.prog 60 cs off = if off + 3 ≤ cs.length then some (.agg ((cs.drop off).take 3)) else none := rd_agg ag60 sz60
theorem alc60 {dr : Bool} {st : PS} {id tk : Nat} {K : PS → Prop} {d : Option Tmp} {ty : TypeId} {pos : String} {af : Array Edge} {g : Option (Nat × Bool)} : stepN dr Tryd.prog ⟨d, .alloc 60, ty, pos, af, g⟩ st id tk K = K (PS.put { st with heap := (id, .box 60 [.val (.int .i64 0), .val (.int .i64 0), .val (.bool false)]) :: st.heap } d (.ptr id 0)) := s_allocC z60 rfl rfl
theorem mki60 {dr : Bool} {st : PS} {id tk : Nat} {K : PS → Prop} {d : Option Tmp} {ty : TypeId} {pos : String} {af : Array Edge} {g : Option (Nat × Bool)} {x : Operand} : stepN dr Tryd.prog ⟨d, .makeInterface 60 x, ty, pos, af, g⟩ st id tk K = bindO (st.ev x) fun p => K (st.put d (.iface 60 p)) := s_makeIface Tryd.underlying60 rfl
theorem fa60_0 {st : PS} {x : Operand} {K : PV → Prop} : fieldAddrK Tryd.prog st 60 x 0 K = bindO (st.ev x) (fldP 0 K) :=
  fld_ (P := Tryd.prog) (st := st) (x := x) (K := K) (f := 0) Tryd.underlying60 rfl sz3 (by decide)
theorem fi60_0 {st : PS} {x : Operand} {K : PV → Prop} : fieldK Tryd.prog st 60 x 0 K = bindO (st.ev x) (fieldP Tryd.prog 3 0 K) :=
  field_ (P := Tryd.prog) (st := st) (x := x) (K := K) (f := 0) Tryd.underlying60 rfl
theorem fa60_1 {st : PS} {x : Operand} {K : PV → Prop} : fieldAddrK Tryd.prog st 60 x 1 K = bindO (st.ev x) (fldP 1 K) :=
  fld_ (P := Tryd.prog) (st := st) (x := x) (K := K) (f := 1) Tryd.underlying60 rfl sz3 (by decide)
theorem fi60_1 {st : PS} {x : Operand} {K : PV → Prop} : fieldK Tryd.prog st 60 x 1 K = bindO (st.ev x) (fieldP Tryd.prog 3 1 K) :=
  field_ (P := Tryd.prog) (st := st) (x := x) (K := K) (f := 1) Tryd.underlying60 rfl
theorem fa60_2 {st : PS} {x : Operand} {K : PV → Prop} : fieldAddrK Tryd.prog st 60 x 2 K = bindO (st.ev x) (fldP 2 K) :=
  fld_ (P := Tryd.prog) (st := st) (x := x) (K := K) (f := 2) Tryd.underlying60 rfl sz4 (by decide)
theorem fi60_2 {st : PS} {x : Operand} {K : PV → Prop} : fieldK Tryd.prog st 60 x 2 K = bindO (st.ev x) (fieldP Tryd.prog 4 2 K) :=
  field_ (P := Tryd.prog) (st := st) (x := x) (K := K) (f := 2) Tryd.underlying60 rfl
theorem bld60 {st : PS} {l : List (Nat × Operand)} {K : PV → Prop} : buildK Tryd.prog st 60 l K = bindO (evParts st l) fun ps => (ps.all fun e => match e.2 with | .tup _ => false | _ => true) = true ∧ bindO (fillP (fun i => [(0, 1), (1, 1), (2, 1)][i]?) [.val (.int .i64 0), .val (.int .i64 0), .val (.bool false)] ps) fun cs => K (.agg cs) :=
  buildC Tryd.underlying60 z60 (by kernel_rfl) rfl rfl
-- 62: func(string) (command.shape, bool)
-- 64: func(string) (int64, api.Errno)
-- 65: func(string, string) string
-- 67: func(string, int) (string, int, int)
-- 69: func(string) (chevalref02.N, int)
-- 70: func(chevalref02.N) int64
-- 71: func(string, int) int
-- 72: func([]string, func(string) bool) bool
-- 73: func(int64) string
-- 74: func([]string, string) string
-- 75: func(string, int) (string, int)
-- 76: func(string, string) int
-- 77: Error
-- 78: error
theorem rdo78 {cs : List PV} {off : Nat} : readCells Tryd.prog 78 cs off = cs[off]? := rd_one ag78
theorem alc78 {dr : Bool} {st : PS} {id tk : Nat} {K : PS → Prop} {d : Option Tmp} {ty : TypeId} {pos : String} {af : Array Edge} {g : Option (Nat × Bool)} : stepN dr Tryd.prog ⟨d, .alloc 78, ty, pos, af, g⟩ st id tk K = K (PS.put { st with heap := (id, .box 78 [.val (.nilIface)]) :: st.heap } d (.ptr id 0)) := s_allocC z78 rfl rfl
theorem ifx78 : (∃ ms, Tryd.prog.underlying 78 = some (.interface ms)) = True := eq_true ⟨_, Tryd.underlying78⟩
-- 80: func(string, int, int) (int64, error)
-- 81: func(string, uint8) string
-- 85: func(string) (strings.asciiSet, bool)
-- 86: func(string, *strings.asciiSet) string
-- 87: *strings.asciiSet
theorem rdo87 {cs : List PV} {off : Nat} : readCells Tryd.prog 87 cs off = cs[off]? := rd_one ag87
theorem alc87 {dr : Bool} {st : PS} {id tk : Nat} {K : PS → Prop} {d : Option Tmp} {ty : TypeId} {pos : String} {af : Array Edge} {g : Option (Nat × Bool)} : stepN dr Tryd.prog ⟨d, .alloc 87, ty, pos, af, g⟩ st id tk K = K (PS.put { st with heap := (id, .box 87 [.val (.pointer none)]) :: st.heap } d (.ptr id 0)) := s_allocC z87 rfl rfl
theorem mki87 {dr : Bool} {st : PS} {id tk : Nat} {K : PS → Prop} {d : Option Tmp} {ty : TypeId} {pos : String} {af : Array Edge} {g : Option (Nat × Bool)} {x : Operand} : stepN dr Tryd.prog ⟨d, .makeInterface 87 x, ty, pos, af, g⟩ st id tk K = bindO (st.ev x) fun p => K (st.put d (.iface 87 p)) := s_makeIface Tryd.underlying87 rfl
-- 88: func(chevalref02.N) chevalref02.N
-- 89: func(string) chevalref02.N
-- 90: func(chevalref02.N) bool
-- 91: func(string, int, uint8) bool
-- 92: func([]string, func(string) bool) int
-- 93: func(int64, int) string
-- 94: *strings.Builder
theorem rdo94 {cs : List PV} {off : Nat} : readCells Tryd.prog 94 cs off = cs[off]? := rd_one ag94
theorem alc94 {dr : Bool} {st : PS} {id tk : Nat} {K : PS → Prop} {d : Option Tmp} {ty : TypeId} {pos : String} {af : Array Edge} {g : Option (Nat × Bool)} : stepN dr Tryd.prog ⟨d, .alloc 94, ty, pos, af, g⟩ st id tk K = K (PS.put { st with heap := (id, .box 94 [.val (.pointer none)]) :: st.heap } d (.ptr id 0)) := s_allocC z94 rfl rfl
theorem mki94 {dr : Bool} {st : PS} {id tk : Nat} {K : PS → Prop} {d : Option Tmp} {ty : TypeId} {pos : String} {af : Array Edge} {g : Option (Nat × Bool)} {x : Operand} : stepN dr Tryd.prog ⟨d, .makeInterface 94 x, ty, pos, af, g⟩ st id tk K = bindO (st.ev x) fun p => K (st.put d (.iface 94 p)) := s_makeIface Tryd.underlying94 rfl
-- 95: struct { addr *strings.Builder; buf []uint8 }
-- 96: strings.Builder
theorem rda96 {cs : List PV} {off : Nat} : readCells Tryd.prog 96 cs off = if off + 2 ≤ cs.length then some (.agg ((cs.drop off).take 2)) else none := rd_agg ag96 sz96
theorem alc96 {dr : Bool} {st : PS} {id tk : Nat} {K : PS → Prop} {d : Option Tmp} {ty : TypeId} {pos : String} {af : Array Edge} {g : Option (Nat × Bool)} : stepN dr Tryd.prog ⟨d, .alloc 96, ty, pos, af, g⟩ st id tk K = K (PS.put { st with heap := (id, .box 96 [.val (.pointer none), .val (.slice none 0 0)]) :: st.heap } d (.ptr id 0)) := s_allocC z96 rfl rfl
theorem mki96 {dr : Bool} {st : PS} {id tk : Nat} {K : PS → Prop} {d : Option Tmp} {ty : TypeId} {pos : String} {af : Array Edge} {g : Option (Nat × Bool)} {x : Operand} : stepN dr Tryd.prog ⟨d, .makeInterface 96 x, ty, pos, af, g⟩ st id tk K = bindO (st.ev x) fun p => K (st.put d (.iface 96 p)) := s_makeIface Tryd.underlying96 rfl
theorem fa96_0 {st : PS} {x : Operand} {K : PV → Prop} : fieldAddrK Tryd.prog st 96 x 0 K = bindO (st.ev x) (fldP 0 K) :=
  fld_ (P := Tryd.prog) (st := st) (x := x) (K := K) (f := 0) Tryd.underlying96 rfl sz94 (by decide)
theorem fi96_0 {st : PS} {x : Operand} {K : PV → Prop} : fieldK Tryd.prog st 96 x 0 K = bindO (st.ev x) (fieldP Tryd.prog 94 0 K) :=
  field_ (P := Tryd.prog) (st := st) (x := x) (K := K) (f := 0) Tryd.underlying96 rfl
theorem fa96_1 {st : PS} {x : Operand} {K : PV → Prop} : fieldAddrK Tryd.prog st 96 x 1 K = bindO (st.ev x) (fldP 1 K) :=
  fld_ (P := Tryd.prog) (st := st) (x := x) (K := K) (f := 1) Tryd.underlying96 rfl sz26 (by decide)
theorem fi96_1 {st : PS} {x : Operand} {K : PV → Prop} : fieldK Tryd.prog st 96 x 1 K = bindO (st.ev x) (fieldP Tryd.prog 26 1 K) :=
  field_ (P := Tryd.prog) (st := st) (x := x) (K := K) (f := 1) Tryd.underlying96 rfl
theorem bld96 {st : PS} {l : List (Nat × Operand)} {K : PV → Prop} : buildK Tryd.prog st 96 l K = bindO (evParts st l) fun ps => (ps.all fun e => match e.2 with | .tup _ => false | _ => true) = true ∧ bindO (fillP (fun i => [(0, 1), (1, 1)][i]?) [.val (.pointer none), .val (.slice none 0 0)] ps) fun cs => K (.agg cs) :=
  buildC Tryd.underlying96 z96 (by kernel_rfl) rfl rfl
-- 97: func(int)
-- 99: func(string) (int, error)
-- 100: func(string, int) bool
-- 101: func(string, int32) int
-- 102: func(int) bool
-- 103: func(string, string, int, int, error) error
-- 105: func(string) (int32, int)
-- 106: func(string, int32) bool
-- 107: func(chevalref02.N, chevalref02.N) chevalref02.N
-- 108: func(chevalref02.N, chevalref02.N) bool
-- 109: *uint8
theorem rdo109 {cs : List PV} {off : Nat} : readCells Tryd.prog 109 cs off = cs[off]? := rd_one ag109
theorem alc109 {dr : Bool} {st : PS} {id tk : Nat} {K : PS → Prop} {d : Option Tmp} {ty : TypeId} {pos : String} {af : Array Edge} {g : Option (Nat × Bool)} : stepN dr Tryd.prog ⟨d, .alloc 109, ty, pos, af, g⟩ st id tk K = K (PS.put { st with heap := (id, .box 109 [.val (.pointer none)]) :: st.heap } d (.ptr id 0)) := s_allocC z109 rfl rfl
theorem mki109 {dr : Bool} {st : PS} {id tk : Nat} {K : PS → Prop} {d : Option Tmp} {ty : TypeId} {pos : String} {af : Array Edge} {g : Option (Nat × Bool)} {x : Operand} : stepN dr Tryd.prog ⟨d, .makeInterface 109 x, ty, pos, af, g⟩ st id tk K = bindO (st.ev x) fun p => K (st.put d (.iface 109 p)) := s_makeIface Tryd.underlying109 rfl
-- 110: func(string, uint8) int
-- 111: func(int32) bool
-- 112: func(int) int
-- 113: uint
theorem rdo113 {cs : List PV} {off : Nat} : readCells Tryd.prog 113 cs off = cs[off]? := rd_one ag113
theorem alc113 {dr : Bool} {st : PS} {id tk : Nat} {K : PS → Prop} {d : Option Tmp} {ty : TypeId} {pos : String} {af : Array Edge} {g : Option (Nat × Bool)} : stepN dr Tryd.prog ⟨d, .alloc 113, ty, pos, af, g⟩ st id tk K = K (PS.put { st with heap := (id, .box 113 [.val (.int .u64 0)]) :: st.heap } d (.ptr id 0)) := s_allocC z113 rfl rfl
theorem mki113 {dr : Bool} {st : PS} {id tk : Nat} {K : PS → Prop} {d : Option Tmp} {ty : TypeId} {pos : String} {af : Array Edge} {g : Option (Nat × Bool)} {x : Operand} : stepN dr Tryd.prog ⟨d, .makeInterface 113 x, ty, pos, af, g⟩ st id tk K = bindO (st.ev x) fun p => K (st.put d (.iface 113 p)) := s_makeIface Tryd.underlying113 rfl
-- 114: strconv.Error
theorem rdo114 {cs : List PV} {off : Nat} : readCells Tryd.prog 114 cs off = cs[off]? := rd_one ag114
theorem alc114 {dr : Bool} {st : PS} {id tk : Nat} {K : PS → Prop} {d : Option Tmp} {ty : TypeId} {pos : String} {af : Array Edge} {g : Option (Nat × Bool)} : stepN dr Tryd.prog ⟨d, .alloc 114, ty, pos, af, g⟩ st id tk K = K (PS.put { st with heap := (id, .box 114 [.val (.int .i64 0)]) :: st.heap } d (.ptr id 0)) := s_allocC z114 rfl rfl
theorem mki114 {dr : Bool} {st : PS} {id tk : Nat} {K : PS → Prop} {d : Option Tmp} {ty : TypeId} {pos : String} {af : Array Edge} {g : Option (Nat × Bool)} {x : Operand} : stepN dr Tryd.prog ⟨d, .makeInterface 114 x, ty, pos, af, g⟩ st id tk K = bindO (st.ev x) fun p => K (st.put d (.iface 114 p)) := s_makeIface Tryd.underlying114 rfl
-- 115: uint64
theorem rdo115 {cs : List PV} {off : Nat} : readCells Tryd.prog 115 cs off = cs[off]? := rd_one ag115
theorem alc115 {dr : Bool} {st : PS} {id tk : Nat} {K : PS → Prop} {d : Option Tmp} {ty : TypeId} {pos : String} {af : Array Edge} {g : Option (Nat × Bool)} : stepN dr Tryd.prog ⟨d, .alloc 115, ty, pos, af, g⟩ st id tk K = K (PS.put { st with heap := (id, .box 115 [.val (.int .u64 0)]) :: st.heap } d (.ptr id 0)) := s_allocC z115 rfl rfl
theorem mki115 {dr : Bool} {st : PS} {id tk : Nat} {K : PS → Prop} {d : Option Tmp} {ty : TypeId} {pos : String} {af : Array Edge} {g : Option (Nat × Bool)} {x : Operand} : stepN dr Tryd.prog ⟨d, .makeInterface 115 x, ty, pos, af, g⟩ st id tk K = bindO (st.ev x) fun p => K (st.put d (.iface 115 p)) := s_makeIface Tryd.underlying115 rfl
-- 117: func(string, int, int) (uint64, error)
-- 118: *strconv.NumError
theorem rdo118 {cs : List PV} {off : Nat} : readCells Tryd.prog 118 cs off = cs[off]? := rd_one ag118
theorem alc118 {dr : Bool} {st : PS} {id tk : Nat} {K : PS → Prop} {d : Option Tmp} {ty : TypeId} {pos : String} {af : Array Edge} {g : Option (Nat × Bool)} : stepN dr Tryd.prog ⟨d, .alloc 118, ty, pos, af, g⟩ st id tk K = K (PS.put { st with heap := (id, .box 118 [.val (.pointer none)]) :: st.heap } d (.ptr id 0)) := s_allocC z118 rfl rfl
theorem mki118 {dr : Bool} {st : PS} {id tk : Nat} {K : PS → Prop} {d : Option Tmp} {ty : TypeId} {pos : String} {af : Array Edge} {g : Option (Nat × Bool)} {x : Operand} : stepN dr Tryd.prog ⟨d, .makeInterface 118 x, ty, pos, af, g⟩ st id tk K = bindO (st.ev x) fun p => K (st.put d (.iface 118 p)) := s_makeIface Tryd.underlying118 rfl
-- 119: func(string, string) *strconv.NumError
-- 120: func(string, string, int) *strconv.NumError
-- 121: func([]int, []int, int) []int
-- 122: func([]int, []int) bool
-- 123: func(int) string
-- 124: [24]uint8
theorem rda124 {cs : List PV} {off : Nat} : readCells Tryd.prog 124 cs off = if off + 24 ≤ cs.length then some (.agg ((cs.drop off).take 24)) else none := rd_agg ag124 sz124
theorem alc124 {dr : Bool} {st : PS} {id tk : Nat} {K : PS → Prop} {d : Option Tmp} {ty : TypeId} {pos : String} {af : Array Edge} {g : Option (Nat × Bool)} : stepN dr Tryd.prog ⟨d, .alloc 124, ty, pos, af, g⟩ st id tk K = K (PS.put { st with heap := (id, .box 124 [.val (.int .u8 0), .val (.int .u8 0), .val (.int .u8 0), .val (.int .u8 0), .val (.int .u8 0), .val (.int .u8 0), .val (.int .u8 0), .val (.int .u8 0), .val (.int .u8 0), .val (.int .u8 0), .val (.int .u8 0), .val (.int .u8 0), .val (.int .u8 0), .val (.int .u8 0), .val (.int .u8 0), .val (.int .u8 0), .val (.int .u8 0), .val (.int .u8 0), .val (.int .u8 0), .val (.int .u8 0), .val (.int .u8 0), .val (.int .u8 0), .val (.int .u8 0), .val (.int .u8 0)]) :: st.heap } d (.ptr id 0)) := s_allocC z124 rfl rfl
theorem lns124 {st : PS} {x : Operand} {K : PV → Prop} : lenK Tryd.prog st 124 x K = K (.val (.int .i64 (24 : Nat))) := len_array Tryd.underlying124
theorem ixs124 {st : PS} {x y : Operand} {K : PV → Prop} : indexAddrK Tryd.prog st 124 x y K = bindO (st.ev x) fun p => bindO (st.ev y) fun q => intK q fun i => ixA 1 24 i K p := ix_array Tryd.underlying124 sz5
theorem bld124 {st : PS} {l : List (Nat × Operand)} {K : PV → Prop} : buildK Tryd.prog st 124 l K = bindO (evParts st l) fun ps => (ps.all fun e => match e.2 with | .tup _ => false | _ => true) = true ∧ bindO (fillP (fun i => some (i * 1, 1)) [.val (.int .u8 0), .val (.int .u8 0), .val (.int .u8 0), .val (.int .u8 0), .val (.int .u8 0), .val (.int .u8 0), .val (.int .u8 0), .val (.int .u8 0), .val (.int .u8 0), .val (.int .u8 0), .val (.int .u8 0), .val (.int .u8 0), .val (.int .u8 0), .val (.int .u8 0), .val (.int .u8 0), .val (.int .u8 0), .val (.int .u8 0), .val (.int .u8 0), .val (.int .u8 0), .val (.int .u8 0), .val (.int .u8 0), .val (.int .u8 0), .val (.int .u8 0), .val (.int .u8 0)] ps) fun cs => K (.agg cs) :=
  buildA Tryd.underlying124 z124 sz5 rfl rfl
-- 125: func(uint64) int
-- 126: func([]uint8, uint64)
-- 128: func([]uint8, uint64, int, bool, bool) ([]uint8, string)
-- 130: func(unsafe.Pointer) unsafe.Pointer
-- 131: func(int) []uint8
-- 132: func(string, string) bool
-- 133: func(uint8) uint8
-- 134: func(string) string
-- 135: struct { Func string; Num string; Err error }
-- 136: strconv.NumError
theorem rda136 {cs : List PV} {off : Nat} : readCells Tryd.prog 136 cs off = if off + 3 ≤ cs.length then some (.agg ((cs.drop off).take 3)) else none := rd_agg ag136 sz136
theorem alc136 {dr : Bool} {st : PS} {id tk : Nat} {K : PS → Prop} {d : Option Tmp} {ty : TypeId} {pos : String} {af : Array Edge} {g : Option (Nat × Bool)} : stepN dr Tryd.prog ⟨d, .alloc 136, ty, pos, af, g⟩ st id tk K = K (PS.put { st with heap := (id, .box 136 [.val (.string ByteArray.empty), .val (.string ByteArray.empty), .val (.nilIface)]) :: st.heap } d (.ptr id 0)) := s_allocC z136 rfl rfl
theorem mki136 {dr : Bool} {st : PS} {id tk : Nat} {K : PS → Prop} {d : Option Tmp} {ty : TypeId} {pos : String} {af : Array Edge} {g : Option (Nat × Bool)} {x : Operand} : stepN dr Tryd.prog ⟨d, .makeInterface 136 x, ty, pos, af, g⟩ st id tk K = bindO (st.ev x) fun p => K (st.put d (.iface 136 p)) := s_makeIface Tryd.underlying136 rfl
theorem fa136_0 {st : PS} {x : Operand} {K : PV → Prop} : fieldAddrK Tryd.prog st 136 x 0 K = bindO (st.ev x) (fldP 0 K) :=
  fld_ (P := Tryd.prog) (st := st) (x := x) (K := K) (f := 0) Tryd.underlying136 rfl sz9 (by decide)
theorem fi136_0 {st : PS} {x : Operand} {K : PV → Prop} : fieldK Tryd.prog st 136 x 0 K = bindO (st.ev x) (fieldP Tryd.prog 9 0 K) :=
  field_ (P := Tryd.prog) (st := st) (x := x) (K := K) (f := 0) Tryd.underlying136 rfl
theorem fa136_1 {st : PS} {x : Operand} {K : PV → Prop} : fieldAddrK Tryd.prog st 136 x 1 K = bindO (st.ev x) (fldP 1 K) :=
  fld_ (P := Tryd.prog) (st := st) (x := x) (K := K) (f := 1) Tryd.underlying136 rfl sz9 (by decide)
theorem fi136_1 {st : PS} {x : Operand} {K : PV → Prop} : fieldK Tryd.prog st 136 x 1 K = bindO (st.ev x) (fieldP Tryd.prog 9 1 K) :=
  field_ (P := Tryd.prog) (st := st) (x := x) (K := K) (f := 1) Tryd.underlying136 rfl
theorem fa136_2 {st : PS} {x : Operand} {K : PV → Prop} : fieldAddrK Tryd.prog st 136 x 2 K = bindO (st.ev x) (fldP 2 K) :=
  fld_ (P := Tryd.prog) (st := st) (x := x) (K := K) (f := 2) Tryd.underlying136 rfl sz78 (by decide)
theorem fi136_2 {st : PS} {x : Operand} {K : PV → Prop} : fieldK Tryd.prog st 136 x 2 K = bindO (st.ev x) (fieldP Tryd.prog 78 2 K) :=
  field_ (P := Tryd.prog) (st := st) (x := x) (K := K) (f := 2) Tryd.underlying136 rfl
theorem bld136 {st : PS} {l : List (Nat × Operand)} {K : PV → Prop} : buildK Tryd.prog st 136 l K = bindO (evParts st l) fun ps => (ps.all fun e => match e.2 with | .tup _ => false | _ => true) = true ∧ bindO (fillP (fun i => [(0, 1), (1, 1), (2, 1)][i]?) [.val (.string ByteArray.empty), .val (.string ByteArray.empty), .val (.nilIface)] ps) fun cs => K (.agg cs) :=
  buildC Tryd.underlying136 z136 (by kernel_rfl) rfl rfl
-- 137: func(string) error
-- 139: struct { lo uint8; hi uint8 }
-- 140: utf8.acceptRange
theorem rda140 {cs : List PV} {off : Nat} : readCells Tryd.prog 140 cs off = if off + 2 ≤ cs.length then some (.agg ((cs.drop off).take 2)) else none := rd_agg ag140 sz140
theorem alc140 {dr : Bool} {st : PS} {id tk : Nat} {K : PS → Prop} {d : Option Tmp} {ty : TypeId} {pos : String} {af : Array Edge} {g : Option (Nat × Bool)} : stepN dr Tryd.prog ⟨d, .alloc 140, ty, pos, af, g⟩ st id tk K = K (PS.put { st with heap := (id, .box 140 [.val (.int .u8 0), .val (.int .u8 0)]) :: st.heap } d (.ptr id 0)) := s_allocC z140 rfl rfl
theorem mki140 {dr : Bool} {st : PS} {id tk : Nat} {K : PS → Prop} {d : Option Tmp} {ty : TypeId} {pos : String} {af : Array Edge} {g : Option (Nat × Bool)} {x : Operand} : stepN dr Tryd.prog ⟨d, .makeInterface 140 x, ty, pos, af, g⟩ st id tk K = bindO (st.ev x) fun p => K (st.put d (.iface 140 p)) := s_makeIface Tryd.underlying140 rfl
theorem fa140_0 {st : PS} {x : Operand} {K : PV → Prop} : fieldAddrK Tryd.prog st 140 x 0 K = bindO (st.ev x) (fldP 0 K) :=
  fld_ (P := Tryd.prog) (st := st) (x := x) (K := K) (f := 0) Tryd.underlying140 rfl sz5 (by decide)
theorem fi140_0 {st : PS} {x : Operand} {K : PV → Prop} : fieldK Tryd.prog st 140 x 0 K = bindO (st.ev x) (fieldP Tryd.prog 5 0 K) :=
  field_ (P := Tryd.prog) (st := st) (x := x) (K := K) (f := 0) Tryd.underlying140 rfl
theorem fa140_1 {st : PS} {x : Operand} {K : PV → Prop} : fieldAddrK Tryd.prog st 140 x 1 K = bindO (st.ev x) (fldP 1 K) :=
  fld_ (P := Tryd.prog) (st := st) (x := x) (K := K) (f := 1) Tryd.underlying140 rfl sz5 (by decide)
theorem fi140_1 {st : PS} {x : Operand} {K : PV → Prop} : fieldK Tryd.prog st 140 x 1 K = bindO (st.ev x) (fieldP Tryd.prog 5 1 K) :=
  field_ (P := Tryd.prog) (st := st) (x := x) (K := K) (f := 1) Tryd.underlying140 rfl
theorem bld140 {st : PS} {l : List (Nat × Operand)} {K : PV → Prop} : buildK Tryd.prog st 140 l K = bindO (evParts st l) fun ps => (ps.all fun e => match e.2 with | .tup _ => false | _ => true) = true ∧ bindO (fillP (fun i => [(0, 1), (1, 1)][i]?) [.val (.int .u8 0), .val (.int .u8 0)] ps) fun cs => K (.agg cs) :=
  buildC Tryd.underlying140 z140 (by kernel_rfl) rfl rfl
-- 141: [16]utf8.acceptRange
theorem rda141 {cs : List PV} {off : Nat} : readCells Tryd.prog 141 cs off = if off + 32 ≤ cs.length then some (.agg ((cs.drop off).take 32)) else none := rd_agg ag141 sz141
theorem alc141 {dr : Bool} {st : PS} {id tk : Nat} {K : PS → Prop} {d : Option Tmp} {ty : TypeId} {pos : String} {af : Array Edge} {g : Option (Nat × Bool)} : stepN dr Tryd.prog ⟨d, .alloc 141, ty, pos, af, g⟩ st id tk K = K (PS.put { st with heap := (id, .box 141 [.val (.int .u8 0), .val (.int .u8 0), .val (.int .u8 0), .val (.int .u8 0), .val (.int .u8 0), .val (.int .u8 0), .val (.int .u8 0), .val (.int .u8 0), .val (.int .u8 0), .val (.int .u8 0), .val (.int .u8 0), .val (.int .u8 0), .val (.int .u8 0), .val (.int .u8 0), .val (.int .u8 0), .val (.int .u8 0), .val (.int .u8 0), .val (.int .u8 0), .val (.int .u8 0), .val (.int .u8 0), .val (.int .u8 0), .val (.int .u8 0), .val (.int .u8 0), .val (.int .u8 0), .val (.int .u8 0), .val (.int .u8 0), .val (.int .u8 0), .val (.int .u8 0), .val (.int .u8 0), .val (.int .u8 0), .val (.int .u8 0), .val (.int .u8 0)]) :: st.heap } d (.ptr id 0)) := s_allocC z141 rfl rfl
theorem lns141 {st : PS} {x : Operand} {K : PV → Prop} : lenK Tryd.prog st 141 x K = K (.val (.int .i64 (16 : Nat))) := len_array Tryd.underlying141
theorem ixs141 {st : PS} {x y : Operand} {K : PV → Prop} : indexAddrK Tryd.prog st 141 x y K = bindO (st.ev x) fun p => bindO (st.ev y) fun q => intK q fun i => ixA 2 16 i K p := ix_array Tryd.underlying141 sz140
theorem bld141 {st : PS} {l : List (Nat × Operand)} {K : PV → Prop} : buildK Tryd.prog st 141 l K = bindO (evParts st l) fun ps => (ps.all fun e => match e.2 with | .tup _ => false | _ => true) = true ∧ bindO (fillP (fun i => some (i * 2, 2)) [.val (.int .u8 0), .val (.int .u8 0), .val (.int .u8 0), .val (.int .u8 0), .val (.int .u8 0), .val (.int .u8 0), .val (.int .u8 0), .val (.int .u8 0), .val (.int .u8 0), .val (.int .u8 0), .val (.int .u8 0), .val (.int .u8 0), .val (.int .u8 0), .val (.int .u8 0), .val (.int .u8 0), .val (.int .u8 0), .val (.int .u8 0), .val (.int .u8 0), .val (.int .u8 0), .val (.int .u8 0), .val (.int .u8 0), .val (.int .u8 0), .val (.int .u8 0), .val (.int .u8 0), .val (.int .u8 0), .val (.int .u8 0), .val (.int .u8 0), .val (.int .u8 0), .val (.int .u8 0), .val (.int .u8 0), .val (.int .u8 0), .val (.int .u8 0)] ps) fun cs => K (.agg cs) :=
  buildA Tryd.underlying141 z141 sz140 rfl rfl
-- 142: func(bool) int
-- 143: [20]uint64
theorem rda143 {cs : List PV} {off : Nat} : readCells Tryd.prog 143 cs off = if off + 20 ≤ cs.length then some (.agg ((cs.drop off).take 20)) else none := rd_agg ag143 sz143
theorem alc143 {dr : Bool} {st : PS} {id tk : Nat} {K : PS → Prop} {d : Option Tmp} {ty : TypeId} {pos : String} {af : Array Edge} {g : Option (Nat × Bool)} : stepN dr Tryd.prog ⟨d, .alloc 143, ty, pos, af, g⟩ st id tk K = K (PS.put { st with heap := (id, .box 143 [.val (.int .u64 0), .val (.int .u64 0), .val (.int .u64 0), .val (.int .u64 0), .val (.int .u64 0), .val (.int .u64 0), .val (.int .u64 0), .val (.int .u64 0), .val (.int .u64 0), .val (.int .u64 0), .val (.int .u64 0), .val (.int .u64 0), .val (.int .u64 0), .val (.int .u64 0), .val (.int .u64 0), .val (.int .u64 0), .val (.int .u64 0), .val (.int .u64 0), .val (.int .u64 0), .val (.int .u64 0)]) :: st.heap } d (.ptr id 0)) := s_allocC z143 rfl rfl
theorem lns143 {st : PS} {x : Operand} {K : PV → Prop} : lenK Tryd.prog st 143 x K = K (.val (.int .i64 (20 : Nat))) := len_array Tryd.underlying143
theorem ixs143 {st : PS} {x y : Operand} {K : PV → Prop} : indexAddrK Tryd.prog st 143 x y K = bindO (st.ev x) fun p => bindO (st.ev y) fun q => intK q fun i => ixA 1 20 i K p := ix_array Tryd.underlying143 sz115
theorem bld143 {st : PS} {l : List (Nat × Operand)} {K : PV → Prop} : buildK Tryd.prog st 143 l K = bindO (evParts st l) fun ps => (ps.all fun e => match e.2 with | .tup _ => false | _ => true) = true ∧ bindO (fillP (fun i => some (i * 1, 1)) [.val (.int .u64 0), .val (.int .u64 0), .val (.int .u64 0), .val (.int .u64 0), .val (.int .u64 0), .val (.int .u64 0), .val (.int .u64 0), .val (.int .u64 0), .val (.int .u64 0), .val (.int .u64 0), .val (.int .u64 0), .val (.int .u64 0), .val (.int .u64 0), .val (.int .u64 0), .val (.int .u64 0), .val (.int .u64 0), .val (.int .u64 0), .val (.int .u64 0), .val (.int .u64 0), .val (.int .u64 0)] ps) fun cs => K (.agg cs) :=
  buildA Tryd.underlying143 z143 sz115 rfl rfl
-- 144: uint32
theorem rdo144 {cs : List PV} {off : Nat} : readCells Tryd.prog 144 cs off = cs[off]? := rd_one ag144
theorem alc144 {dr : Bool} {st : PS} {id tk : Nat} {K : PS → Prop} {d : Option Tmp} {ty : TypeId} {pos : String} {af : Array Edge} {g : Option (Nat × Bool)} : stepN dr Tryd.prog ⟨d, .alloc 144, ty, pos, af, g⟩ st id tk K = K (PS.put { st with heap := (id, .box 144 [.val (.int .u32 0)]) :: st.heap } d (.ptr id 0)) := s_allocC z144 rfl rfl
theorem mki144 {dr : Bool} {st : PS} {id tk : Nat} {K : PS → Prop} {d : Option Tmp} {ty : TypeId} {pos : String} {af : Array Edge} {g : Option (Nat × Bool)} {x : Operand} : stepN dr Tryd.prog ⟨d, .makeInterface 144 x, ty, pos, af, g⟩ st id tk K = bindO (st.ev x) fun p => K (st.put d (.iface 144 p)) := s_makeIface Tryd.underlying144 rfl
-- 146: func(uint) int
-- 147: *errors.errorString
theorem rdo147 {cs : List PV} {off : Nat} : readCells Tryd.prog 147 cs off = cs[off]? := rd_one ag147
theorem alc147 {dr : Bool} {st : PS} {id tk : Nat} {K : PS → Prop} {d : Option Tmp} {ty : TypeId} {pos : String} {af : Array Edge} {g : Option (Nat × Bool)} : stepN dr Tryd.prog ⟨d, .alloc 147, ty, pos, af, g⟩ st id tk K = K (PS.put { st with heap := (id, .box 147 [.val (.pointer none)]) :: st.heap } d (.ptr id 0)) := s_allocC z147 rfl rfl
theorem mki147 {dr : Bool} {st : PS} {id tk : Nat} {K : PS → Prop} {d : Option Tmp} {ty : TypeId} {pos : String} {af : Array Edge} {g : Option (Nat × Bool)} {x : Operand} : stepN dr Tryd.prog ⟨d, .makeInterface 147 x, ty, pos, af, g⟩ st id tk K = bindO (st.ev x) fun p => K (st.put d (.iface 147 p)) := s_makeIface Tryd.underlying147 rfl
-- 148: struct { s string }
-- 149: errors.errorString
theorem rda149 {cs : List PV} {off : Nat} : readCells Tryd.prog 149 cs off = if off + 1 ≤ cs.length then some (.agg ((cs.drop off).take 1)) else none := rd_agg ag149 sz149
theorem alc149 {dr : Bool} {st : PS} {id tk : Nat} {K : PS → Prop} {d : Option Tmp} {ty : TypeId} {pos : String} {af : Array Edge} {g : Option (Nat × Bool)} : stepN dr Tryd.prog ⟨d, .alloc 149, ty, pos, af, g⟩ st id tk K = K (PS.put { st with heap := (id, .box 149 [.val (.string ByteArray.empty)]) :: st.heap } d (.ptr id 0)) := s_allocC z149 rfl rfl
theorem mki149 {dr : Bool} {st : PS} {id tk : Nat} {K : PS → Prop} {d : Option Tmp} {ty : TypeId} {pos : String} {af : Array Edge} {g : Option (Nat × Bool)} {x : Operand} : stepN dr Tryd.prog ⟨d, .makeInterface 149 x, ty, pos, af, g⟩ st id tk K = bindO (st.ev x) fun p => K (st.put d (.iface 149 p)) := s_makeIface Tryd.underlying149 rfl
theorem fa149_0 {st : PS} {x : Operand} {K : PV → Prop} : fieldAddrK Tryd.prog st 149 x 0 K = bindO (st.ev x) (fldP 0 K) :=
  fld_ (P := Tryd.prog) (st := st) (x := x) (K := K) (f := 0) Tryd.underlying149 rfl sz9 (by decide)
theorem fi149_0 {st : PS} {x : Operand} {K : PV → Prop} : fieldK Tryd.prog st 149 x 0 K = bindO (st.ev x) (fieldP Tryd.prog 9 0 K) :=
  field_ (P := Tryd.prog) (st := st) (x := x) (K := K) (f := 0) Tryd.underlying149 rfl
theorem bld149 {st : PS} {l : List (Nat × Operand)} {K : PV → Prop} : buildK Tryd.prog st 149 l K = bindO (evParts st l) fun ps => (ps.all fun e => match e.2 with | .tup _ => false | _ => true) = true ∧ bindO (fillP (fun i => [(0, 1)][i]?) [.val (.string ByteArray.empty)] ps) fun cs => K (.agg cs) :=
  buildC Tryd.underlying149 z149 (by kernel_rfl) rfl rfl
-- 150: func(uint32) int
-- 151: [32]uint8
theorem rda151 {cs : List PV} {off : Nat} : readCells Tryd.prog 151 cs off = if off + 32 ≤ cs.length then some (.agg ((cs.drop off).take 32)) else none := rd_agg ag151 sz151
theorem alc151 {dr : Bool} {st : PS} {id tk : Nat} {K : PS → Prop} {d : Option Tmp} {ty : TypeId} {pos : String} {af : Array Edge} {g : Option (Nat × Bool)} : stepN dr Tryd.prog ⟨d, .alloc 151, ty, pos, af, g⟩ st id tk K = K (PS.put { st with heap := (id, .box 151 [.val (.int .u8 0), .val (.int .u8 0), .val (.int .u8 0), .val (.int .u8 0), .val (.int .u8 0), .val (.int .u8 0), .val (.int .u8 0), .val (.int .u8 0), .val (.int .u8 0), .val (.int .u8 0), .val (.int .u8 0), .val (.int .u8 0), .val (.int .u8 0), .val (.int .u8 0), .val (.int .u8 0), .val (.int .u8 0), .val (.int .u8 0), .val (.int .u8 0), .val (.int .u8 0), .val (.int .u8 0), .val (.int .u8 0), .val (.int .u8 0), .val (.int .u8 0), .val (.int .u8 0), .val (.int .u8 0), .val (.int .u8 0), .val (.int .u8 0), .val (.int .u8 0), .val (.int .u8 0), .val (.int .u8 0), .val (.int .u8 0), .val (.int .u8 0)]) :: st.heap } d (.ptr id 0)) := s_allocC z151 rfl rfl
theorem lns151 {st : PS} {x : Operand} {K : PV → Prop} : lenK Tryd.prog st 151 x K = K (.val (.int .i64 (32 : Nat))) := len_array Tryd.underlying151
theorem ixs151 {st : PS} {x y : Operand} {K : PV → Prop} : indexAddrK Tryd.prog st 151 x y K = bindO (st.ev x) fun p => bindO (st.ev y) fun q => intK q fun i => ixA 1 32 i K p := ix_array Tryd.underlying151 sz5
theorem bld151 {st : PS} {l : List (Nat × Operand)} {K : PV → Prop} : buildK Tryd.prog st 151 l K = bindO (evParts st l) fun ps => (ps.all fun e => match e.2 with | .tup _ => false | _ => true) = true ∧ bindO (fillP (fun i => some (i * 1, 1)) [.val (.int .u8 0), .val (.int .u8 0), .val (.int .u8 0), .val (.int .u8 0), .val (.int .u8 0), .val (.int .u8 0), .val (.int .u8 0), .val (.int .u8 0), .val (.int .u8 0), .val (.int .u8 0), .val (.int .u8 0), .val (.int .u8 0), .val (.int .u8 0), .val (.int .u8 0), .val (.int .u8 0), .val (.int .u8 0), .val (.int .u8 0), .val (.int .u8 0), .val (.int .u8 0), .val (.int .u8 0), .val (.int .u8 0), .val (.int .u8 0), .val (.int .u8 0), .val (.int .u8 0), .val (.int .u8 0), .val (.int .u8 0), .val (.int .u8 0), .val (.int .u8 0), .val (.int .u8 0), .val (.int .u8 0), .val (.int .u8 0), .val (.int .u8 0)] ps) fun cs => K (.agg cs) :=
  buildA Tryd.underlying151 z151 sz5 rfl rfl
-- 152: [64]uint8
theorem rda152 {cs : List PV} {off : Nat} : readCells Tryd.prog 152 cs off = if off + 64 ≤ cs.length then some (.agg ((cs.drop off).take 64)) else none := rd_agg ag152 sz152
theorem alc152 {dr : Bool} {st : PS} {id tk : Nat} {K : PS → Prop} {d : Option Tmp} {ty : TypeId} {pos : String} {af : Array Edge} {g : Option (Nat × Bool)} : stepN dr Tryd.prog ⟨d, .alloc 152, ty, pos, af, g⟩ st id tk K = K (PS.put { st with heap := (id, .box 152 [.val (.int .u8 0), .val (.int .u8 0), .val (.int .u8 0), .val (.int .u8 0), .val (.int .u8 0), .val (.int .u8 0), .val (.int .u8 0), .val (.int .u8 0), .val (.int .u8 0), .val (.int .u8 0), .val (.int .u8 0), .val (.int .u8 0), .val (.int .u8 0), .val (.int .u8 0), .val (.int .u8 0), .val (.int .u8 0), .val (.int .u8 0), .val (.int .u8 0), .val (.int .u8 0), .val (.int .u8 0), .val (.int .u8 0), .val (.int .u8 0), .val (.int .u8 0), .val (.int .u8 0), .val (.int .u8 0), .val (.int .u8 0), .val (.int .u8 0), .val (.int .u8 0), .val (.int .u8 0), .val (.int .u8 0), .val (.int .u8 0), .val (.int .u8 0), .val (.int .u8 0), .val (.int .u8 0), .val (.int .u8 0), .val (.int .u8 0), .val (.int .u8 0), .val (.int .u8 0), .val (.int .u8 0), .val (.int .u8 0), .val (.int .u8 0), .val (.int .u8 0), .val (.int .u8 0), .val (.int .u8 0), .val (.int .u8 0), .val (.int .u8 0), .val (.int .u8 0), .val (.int .u8 0), .val (.int .u8 0), .val (.int .u8 0), .val (.int .u8 0), .val (.int .u8 0), .val (.int .u8 0), .val (.int .u8 0), .val (.int .u8 0), .val (.int .u8 0), .val (.int .u8 0), .val (.int .u8 0), .val (.int .u8 0), .val (.int .u8 0), .val (.int .u8 0), .val (.int .u8 0), .val (.int .u8 0), .val (.int .u8 0)]) :: st.heap } d (.ptr id 0)) := s_allocC z152 rfl rfl
theorem lns152 {st : PS} {x : Operand} {K : PV → Prop} : lenK Tryd.prog st 152 x K = K (.val (.int .i64 (64 : Nat))) := len_array Tryd.underlying152
theorem ixs152 {st : PS} {x y : Operand} {K : PV → Prop} : indexAddrK Tryd.prog st 152 x y K = bindO (st.ev x) fun p => bindO (st.ev y) fun q => intK q fun i => ixA 1 64 i K p := ix_array Tryd.underlying152 sz5
theorem bld152 {st : PS} {l : List (Nat × Operand)} {K : PV → Prop} : buildK Tryd.prog st 152 l K = bindO (evParts st l) fun ps => (ps.all fun e => match e.2 with | .tup _ => false | _ => true) = true ∧ bindO (fillP (fun i => some (i * 1, 1)) [.val (.int .u8 0), .val (.int .u8 0), .val (.int .u8 0), .val (.int .u8 0), .val (.int .u8 0), .val (.int .u8 0), .val (.int .u8 0), .val (.int .u8 0), .val (.int .u8 0), .val (.int .u8 0), .val (.int .u8 0), .val (.int .u8 0), .val (.int .u8 0), .val (.int .u8 0), .val (.int .u8 0), .val (.int .u8 0), .val (.int .u8 0), .val (.int .u8 0), .val (.int .u8 0), .val (.int .u8 0), .val (.int .u8 0), .val (.int .u8 0), .val (.int .u8 0), .val (.int .u8 0), .val (.int .u8 0), .val (.int .u8 0), .val (.int .u8 0), .val (.int .u8 0), .val (.int .u8 0), .val (.int .u8 0), .val (.int .u8 0), .val (.int .u8 0), .val (.int .u8 0), .val (.int .u8 0), .val (.int .u8 0), .val (.int .u8 0), .val (.int .u8 0), .val (.int .u8 0), .val (.int .u8 0), .val (.int .u8 0), .val (.int .u8 0), .val (.int .u8 0), .val (.int .u8 0), .val (.int .u8 0), .val (.int .u8 0), .val (.int .u8 0), .val (.int .u8 0), .val (.int .u8 0), .val (.int .u8 0), .val (.int .u8 0), .val (.int .u8 0), .val (.int .u8 0), .val (.int .u8 0), .val (.int .u8 0), .val (.int .u8 0), .val (.int .u8 0), .val (.int .u8 0), .val (.int .u8 0), .val (.int .u8 0), .val (.int .u8 0), .val (.int .u8 0), .val (.int .u8 0), .val (.int .u8 0), .val (.int .u8 0)] ps) fun cs => K (.agg cs) :=
  buildA Tryd.underlying152 z152 sz5 rfl rfl
-- 155: [0]*runtime.PanicNilError
-- 156: struct { _ [0]*runtime.PanicNilError }
-- 158: func() int
-- 161: func(unsafe.Pointer, unsafe.Pointer) bool
attribute [go_sem ↓] alc2 mki2 alc3 mki3 alc4 alc5 mki5 alc9 mki9 rng9 lns9 ixs9 sls9 alc20 alc21 mki21 alc22 lns22 ixs22 sls22 app22 bs22 mks22 alc23 lns23 ixs23 sls23 app23 bs23 mks23 alc25 mki25 fa25_0 fi25_0 fa25_1 fi25_1 fa25_2 fi25_2 fa25_3 fi25_3 bld25 alc26 lns26 ixs26 sls26 aps26 cvr26 app26 bs26 mks26 alc32 lns32 ixs32 bld32 alc33 mki33 fa33_0 fi33_0 fa33_1 fi33_1 fa33_2 fi33_2 fa33_3 fi33_3 bld33 alc34 mki34 alc42 lns42 ixs42 sls42 app42 bs42 mks42 alc44 mki44 fa44_0 fi44_0 fa44_1 fi44_1 bld44 alc54 mki54 alc56 mki56 fa56_0 fi56_0 fa56_1 fi56_1 bld56 alc60 mki60 fa60_0 fi60_0 fa60_1 fi60_1 fa60_2 fi60_2 bld60 alc78 alc87 mki87 alc94 mki94 alc96 mki96 fa96_0 fi96_0 fa96_1 fi96_1 bld96 alc109 mki109 alc113 mki113 alc114 mki114 alc115 mki115 alc118 mki118 alc124 lns124 ixs124 bld124 alc136 mki136 fa136_0 fi136_0 fa136_1 fi136_1 fa136_2 fi136_2 bld136 alc140 mki140 fa140_0 fi140_0 fa140_1 fi140_1 bld140 alc141 lns141 ixs141 bld141 alc143 lns143 ixs143 bld143 alc144 mki144 alc147 mki147 alc149 mki149 fa149_0 fi149_0 bld149 alc151 lns151 ixs151 bld151 alc152 lns152 ixs152 bld152
attribute [go_sem] rdo2 sz2 Tryd.underlying2 rdo3 sz3 Tryd.underlying3 rdo4 sz4 Tryd.underlying4 rdo5 sz5 Tryd.underlying5 rdo9 sz9 Tryd.underlying9 rdo20 sz20 ifx20 rdo21 sz21 Tryd.underlying21 rdo22 sz22 rdo23 sz23 rda25 sz25 rdo26 sz26 isb26 Tryd.underlying26 rda32 sz32 rda33 sz33 rdo34 sz34 Tryd.underlying34 rdo42 sz42 rda44 sz44 rdo51 sz51 rdo54 sz54 rda56 sz56 rda60 sz60 rdo78 sz78 ifx78 rdo87 sz87 rdo94 sz94 rda96 sz96 rdo109 sz109 rdo113 sz113 Tryd.underlying113 rdo114 sz114 Tryd.underlying114 rdo115 sz115 Tryd.underlying115 rdo118 sz118 rda124 sz124 rda136 sz136 rda140 sz140 rda141 sz141 rda143 sz143 rdo144 sz144 Tryd.underlying144 rdo147 sz147 rda149 sz149 rda151 sz151 rda152 sz152
end Go.Proofs.YtegehnojbfedlaaDoor
