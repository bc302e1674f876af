/-
  The types of this seat's program: sizes, zero values, the rules by which their operations are rewritten.
-/
import Derived.Test.YtmenmfibpbpblaaProg
import Derived.Test.YtmenmfibpbpblaaPwX
namespace Go.Proofs.Ytmenmfibpbpblaa
open Go Go.Pw
set_option linter.unusedVariables false
set_option maxRecDepth 4000
theorem ag1 : aggT Try.prog 1 = some false := by kernel_rfl
theorem sz1 : sizeOf? Try.prog 1 = some 1 := by kernel_rfl
theorem z1 : zeroOf? Try.prog 1 = some (.nilFunc) := by kernel_rfl
theorem ag2 : aggT Try.prog 2 = some false := by kernel_rfl
theorem sz2 : sizeOf? Try.prog 2 = some 1 := by kernel_rfl
theorem z2 : zeroOf? Try.prog 2 = some (.int .i64 0) := by kernel_rfl
theorem by2 : bytesOf? Try.prog 2 = some 8 := by kernel_rfl
theorem ag3 : aggT Try.prog 3 = some false := by kernel_rfl
theorem sz3 : sizeOf? Try.prog 3 = some 1 := by kernel_rfl
theorem z3 : zeroOf? Try.prog 3 = some (.int .i64 0) := by kernel_rfl
theorem by3 : bytesOf? Try.prog 3 = some 8 := by kernel_rfl
theorem ag4 : aggT Try.prog 4 = some false := by kernel_rfl
theorem sz4 : sizeOf? Try.prog 4 = some 1 := by kernel_rfl
theorem z4 : zeroOf? Try.prog 4 = some (.bool false) := by kernel_rfl
theorem by4 : bytesOf? Try.prog 4 = some 1 := by kernel_rfl
theorem ag5 : aggT Try.prog 5 = some false := by kernel_rfl
theorem sz5 : sizeOf? Try.prog 5 = some 1 := by kernel_rfl
theorem z5 : zeroOf? Try.prog 5 = some (.int .u8 0) := by kernel_rfl
theorem by5 : bytesOf? Try.prog 5 = some 1 := by kernel_rfl
theorem ag9 : aggT Try.prog 9 = some false := by kernel_rfl
theorem sz9 : sizeOf? Try.prog 9 = some 1 := by kernel_rfl
theorem z9 : zeroOf? Try.prog 9 = some (.string ByteArray.empty) := by kernel_rfl
theorem by9 : bytesOf? Try.prog 9 = some 16 := by kernel_rfl
theorem ag12 : aggT Try.prog 12 = some false := by kernel_rfl
theorem sz12 : sizeOf? Try.prog 12 = some 1 := by kernel_rfl
theorem z12 : zeroOf? Try.prog 12 = some (.int .u64 0) := by kernel_rfl
theorem by12 : bytesOf? Try.prog 12 = some 8 := by kernel_rfl
theorem ag13 : aggT Try.prog 13 = some true := by kernel_rfl
theorem sz13 : sizeOf? Try.prog 13 = some 2 := by kernel_rfl
theorem z13 : zeroOf? Try.prog 13 = some (.agg #[.string ByteArray.empty, .int .u64 0]) := by kernel_rfl
theorem by13 : bytesOf? Try.prog 13 = some 24 := by kernel_rfl
theorem ag20 : aggT Try.prog 20 = some false := by kernel_rfl
theorem sz20 : sizeOf? Try.prog 20 = some 1 := by kernel_rfl
theorem z20 : zeroOf? Try.prog 20 = some (.nilIface) := by kernel_rfl
theorem ag21 : aggT Try.prog 21 = some false := by kernel_rfl
theorem sz21 : sizeOf? Try.prog 21 = some 1 := by kernel_rfl
theorem z21 : zeroOf? Try.prog 21 = some (.int .i32 0) := by kernel_rfl
theorem by21 : bytesOf? Try.prog 21 = some 4 := by kernel_rfl
theorem ag22 : aggT Try.prog 22 = some false := by kernel_rfl
theorem sz22 : sizeOf? Try.prog 22 = some 1 := by kernel_rfl
theorem z22 : zeroOf? Try.prog 22 = some (.slice none 0 0) := by kernel_rfl
theorem by22 : bytesOf? Try.prog 22 = some 24 := by kernel_rfl
theorem ag23 : aggT Try.prog 23 = some false := by kernel_rfl
theorem sz23 : sizeOf? Try.prog 23 = some 1 := by kernel_rfl
theorem z23 : zeroOf? Try.prog 23 = some (.nilFunc) := by kernel_rfl
theorem ag24 : aggT Try.prog 24 = some false := by kernel_rfl
theorem sz24 : sizeOf? Try.prog 24 = some 1 := by kernel_rfl
theorem z24 : zeroOf? Try.prog 24 = some (.nilFunc) := by kernel_rfl
theorem ag25 : aggT Try.prog 25 = some false := by kernel_rfl
theorem sz25 : sizeOf? Try.prog 25 = some 1 := by kernel_rfl
theorem z25 : zeroOf? Try.prog 25 = some (.nilFunc) := by kernel_rfl
theorem ag26 : aggT Try.prog 26 = some false := by kernel_rfl
theorem sz26 : sizeOf? Try.prog 26 = some 1 := by kernel_rfl
theorem z26 : zeroOf? Try.prog 26 = some (.nilFunc) := by kernel_rfl
theorem ag27 : aggT Try.prog 27 = some false := by kernel_rfl
theorem sz27 : sizeOf? Try.prog 27 = some 1 := by kernel_rfl
theorem z27 : zeroOf? Try.prog 27 = some (.nilFunc) := by kernel_rfl
theorem ag28 : aggT Try.prog 28 = some false := by kernel_rfl
theorem sz28 : sizeOf? Try.prog 28 = some 1 := by kernel_rfl
theorem z28 : zeroOf? Try.prog 28 = some (.nilFunc) := by kernel_rfl
theorem ag29 : aggT Try.prog 29 = some true := by kernel_rfl
theorem sz29 : sizeOf? Try.prog 29 = some 3 := by kernel_rfl
theorem z29 : zeroOf? Try.prog 29 = some (.agg #[.slice none 0 0, .int .i64 0, .bool false]) := by kernel_rfl
theorem by29 : bytesOf? Try.prog 29 = some 40 := by kernel_rfl
theorem ag30 : aggT Try.prog 30 = some true := by kernel_rfl
theorem sz30 : sizeOf? Try.prog 30 = some 3 := by kernel_rfl
theorem z30 : zeroOf? Try.prog 30 = some (.agg #[.slice none 0 0, .int .i64 0, .bool false]) := by kernel_rfl
theorem by30 : bytesOf? Try.prog 30 = some 40 := by kernel_rfl
theorem ag31 : aggT Try.prog 31 = some false := by kernel_rfl
theorem sz31 : sizeOf? Try.prog 31 = some 1 := by kernel_rfl
theorem z31 : zeroOf? Try.prog 31 = some (.int .u64 0) := by kernel_rfl
theorem by31 : bytesOf? Try.prog 31 = some 8 := by kernel_rfl
theorem ag32 : aggT Try.prog 32 = some true := by kernel_rfl
theorem sz32 : sizeOf? Try.prog 32 = some 4 := by kernel_rfl
theorem z32 : zeroOf? Try.prog 32 = some (.agg #[.slice none 0 0, .bool false, .int .u64 0, .int .i64 0]) := by kernel_rfl
theorem by32 : bytesOf? Try.prog 32 = some 48 := by kernel_rfl
theorem ag33 : aggT Try.prog 33 = some true := by kernel_rfl
theorem sz33 : sizeOf? Try.prog 33 = some 4 := by kernel_rfl
theorem z33 : zeroOf? Try.prog 33 = some (.agg #[.slice none 0 0, .bool false, .int .u64 0, .int .i64 0]) := by kernel_rfl
theorem by33 : bytesOf? Try.prog 33 = some 48 := by kernel_rfl
theorem ag34 : aggT Try.prog 34 = some false := by kernel_rfl
theorem sz34 : sizeOf? Try.prog 34 = some 1 := by kernel_rfl
theorem z34 : zeroOf? Try.prog 34 = some (.nilIface) := by kernel_rfl
theorem ag35 : aggT Try.prog 35 = some false := by kernel_rfl
theorem sz35 : sizeOf? Try.prog 35 = some 1 := by kernel_rfl
theorem z35 : zeroOf? Try.prog 35 = some (.nilIface) := by kernel_rfl
theorem by35 : bytesOf? Try.prog 35 = some 16 := by kernel_rfl
theorem ag37 : aggT Try.prog 37 = some false := by kernel_rfl
theorem sz37 : sizeOf? Try.prog 37 = some 1 := by kernel_rfl
theorem z37 : zeroOf? Try.prog 37 = some (.nilFunc) := by kernel_rfl
theorem ag39 : aggT Try.prog 39 = some false := by kernel_rfl
theorem sz39 : sizeOf? Try.prog 39 = some 1 := by kernel_rfl
theorem z39 : zeroOf? Try.prog 39 = some (.nilFunc) := by kernel_rfl
theorem ag40 : aggT Try.prog 40 = some false := by kernel_rfl
theorem sz40 : sizeOf? Try.prog 40 = some 1 := by kernel_rfl
theorem z40 : zeroOf? Try.prog 40 = some (.nilFunc) := by kernel_rfl
theorem ag41 : aggT Try.prog 41 = some false := by kernel_rfl
theorem sz41 : sizeOf? Try.prog 41 = some 1 := by kernel_rfl
theorem z41 : zeroOf? Try.prog 41 = some (.nilFunc) := by kernel_rfl
theorem ag42 : aggT Try.prog 42 = some false := by kernel_rfl
theorem sz42 : sizeOf? Try.prog 42 = some 1 := by kernel_rfl
theorem z42 : zeroOf? Try.prog 42 = some (.nilFunc) := by kernel_rfl
theorem ag43 : aggT Try.prog 43 = some false := by kernel_rfl
theorem sz43 : sizeOf? Try.prog 43 = some 1 := by kernel_rfl
theorem z43 : zeroOf? Try.prog 43 = some (.slice none 0 0) := by kernel_rfl
theorem by43 : bytesOf? Try.prog 43 = some 24 := by kernel_rfl
theorem ag44 : aggT Try.prog 44 = some false := by kernel_rfl
theorem sz44 : sizeOf? Try.prog 44 = some 1 := by kernel_rfl
theorem z44 : zeroOf? Try.prog 44 = some (.int .i64 0) := by kernel_rfl
theorem by44 : bytesOf? Try.prog 44 = some 8 := by kernel_rfl
theorem ag46 : aggT Try.prog 46 = some false := by kernel_rfl
theorem sz46 : sizeOf? Try.prog 46 = some 1 := by kernel_rfl
theorem z46 : zeroOf? Try.prog 46 = some (.nilFunc) := by kernel_rfl
theorem ag47 : aggT Try.prog 47 = some false := by kernel_rfl
theorem sz47 : sizeOf? Try.prog 47 = some 1 := by kernel_rfl
theorem z47 : zeroOf? Try.prog 47 = some (.nilFunc) := by kernel_rfl
theorem ag48 : aggT Try.prog 48 = some false := by kernel_rfl
theorem sz48 : sizeOf? Try.prog 48 = some 1 := by kernel_rfl
theorem z48 : zeroOf? Try.prog 48 = some (.nilFunc) := by kernel_rfl
theorem ag49 : aggT Try.prog 49 = some false := by kernel_rfl
theorem sz49 : sizeOf? Try.prog 49 = some 1 := by kernel_rfl
theorem z49 : zeroOf? Try.prog 49 = some (.slice none 0 0) := by kernel_rfl
theorem by49 : bytesOf? Try.prog 49 = some 24 := by kernel_rfl
theorem ag51 : aggT Try.prog 51 = some false := by kernel_rfl
theorem sz51 : sizeOf? Try.prog 51 = some 1 := by kernel_rfl
theorem z51 : zeroOf? Try.prog 51 = some (.nilFunc) := by kernel_rfl
theorem ag52 : aggT Try.prog 52 = some false := by kernel_rfl
theorem sz52 : sizeOf? Try.prog 52 = some 1 := by kernel_rfl
theorem z52 : zeroOf? Try.prog 52 = some (.nilFunc) := by kernel_rfl
theorem ag53 : aggT Try.prog 53 = some false := by kernel_rfl
theorem sz53 : sizeOf? Try.prog 53 = some 1 := by kernel_rfl
theorem z53 : zeroOf? Try.prog 53 = some (.nilFunc) := by kernel_rfl
theorem ag54 : aggT Try.prog 54 = some false := by kernel_rfl
theorem sz54 : sizeOf? Try.prog 54 = some 1 := by kernel_rfl
theorem z54 : zeroOf? Try.prog 54 = some (.nilFunc) := by kernel_rfl
theorem ag55 : aggT Try.prog 55 = some false := by kernel_rfl
theorem sz55 : sizeOf? Try.prog 55 = some 1 := by kernel_rfl
theorem z55 : zeroOf? Try.prog 55 = some (.nilFunc) := by kernel_rfl
theorem ag56 : aggT Try.prog 56 = some false := by kernel_rfl
theorem sz56 : sizeOf? Try.prog 56 = some 1 := by kernel_rfl
theorem z56 : zeroOf? Try.prog 56 = some (.nilFunc) := by kernel_rfl
theorem ag57 : aggT Try.prog 57 = some false := by kernel_rfl
theorem sz57 : sizeOf? Try.prog 57 = some 1 := by kernel_rfl
theorem z57 : zeroOf? Try.prog 57 = some (.nilFunc) := by kernel_rfl
theorem ag58 : aggT Try.prog 58 = some false := by kernel_rfl
theorem sz58 : sizeOf? Try.prog 58 = some 1 := by kernel_rfl
theorem z58 : zeroOf? Try.prog 58 = some (.nilFunc) := by kernel_rfl
theorem ag59 : aggT Try.prog 59 = some false := by kernel_rfl
theorem sz59 : sizeOf? Try.prog 59 = some 1 := by kernel_rfl
theorem z59 : zeroOf? Try.prog 59 = some (.pointer none) := by kernel_rfl
theorem by59 : bytesOf? Try.prog 59 = some 8 := by kernel_rfl
theorem ag60 : aggT Try.prog 60 = some false := by kernel_rfl
theorem sz60 : sizeOf? Try.prog 60 = some 1 := by kernel_rfl
theorem z60 : zeroOf? Try.prog 60 = some (.nilFunc) := by kernel_rfl
theorem ag61 : aggT Try.prog 61 = some true := by kernel_rfl
theorem sz61 : sizeOf? Try.prog 61 = some 1 := by kernel_rfl
theorem z61 : zeroOf? Try.prog 61 = some (.agg #[.int .i64 0]) := by kernel_rfl
theorem by61 : bytesOf? Try.prog 61 = some 8 := by kernel_rfl
theorem ag62 : aggT Try.prog 62 = some true := by kernel_rfl
theorem sz62 : sizeOf? Try.prog 62 = some 1 := by kernel_rfl
theorem z62 : zeroOf? Try.prog 62 = some (.agg #[.int .i64 0]) := by kernel_rfl
theorem by62 : bytesOf? Try.prog 62 = some 8 := by kernel_rfl
theorem ag63 : aggT Try.prog 63 = some true := by kernel_rfl
theorem sz63 : sizeOf? Try.prog 63 = some 2 := by kernel_rfl
theorem z63 : zeroOf? Try.prog 63 = some (.agg #[.int .i64 0, .slice none 0 0]) := by kernel_rfl
theorem by63 : bytesOf? Try.prog 63 = some 32 := by kernel_rfl
theorem ag64 : aggT Try.prog 64 = some true := by kernel_rfl
theorem sz64 : sizeOf? Try.prog 64 = some 2 := by kernel_rfl
theorem z64 : zeroOf? Try.prog 64 = some (.agg #[.int .i64 0, .slice none 0 0]) := by kernel_rfl
theorem by64 : bytesOf? Try.prog 64 = some 32 := by kernel_rfl
theorem ag65 : aggT Try.prog 65 = some false := by kernel_rfl
theorem sz65 : sizeOf? Try.prog 65 = some 1 := by kernel_rfl
theorem z65 : zeroOf? Try.prog 65 = some (.pointer none) := by kernel_rfl
theorem by65 : bytesOf? Try.prog 65 = some 8 := by kernel_rfl
theorem ag66 : aggT Try.prog 66 = some true := by kernel_rfl
theorem sz66 : sizeOf? Try.prog 66 = some 2 := by kernel_rfl
theorem z66 : zeroOf? Try.prog 66 = some (.agg #[.int .i64 0, .int .u64 0]) := by kernel_rfl
theorem by66 : bytesOf? Try.prog 66 = some 16 := by kernel_rfl
theorem ag67 : aggT Try.prog 67 = some true := by kernel_rfl
theorem sz67 : sizeOf? Try.prog 67 = some 2 := by kernel_rfl
theorem z67 : zeroOf? Try.prog 67 = some (.agg #[.int .i64 0, .int .u64 0]) := by kernel_rfl
theorem by67 : bytesOf? Try.prog 67 = some 16 := by kernel_rfl
theorem ag68 : aggT Try.prog 68 = some false := by kernel_rfl
theorem sz68 : sizeOf? Try.prog 68 = some 1 := by kernel_rfl
theorem z68 : zeroOf? Try.prog 68 = some (.nilFunc) := by kernel_rfl
theorem ag69 : aggT Try.prog 69 = some false := by kernel_rfl
theorem sz69 : sizeOf? Try.prog 69 = some 1 := by kernel_rfl
theorem z69 : zeroOf? Try.prog 69 = some (.nilFunc) := by kernel_rfl
theorem ag72 : aggT Try.prog 72 = some true := by kernel_rfl
theorem sz72 : sizeOf? Try.prog 72 = some 0 := by kernel_rfl
theorem z72 : zeroOf? Try.prog 72 = some (.agg #[]) := by kernel_rfl
theorem by72 : bytesOf? Try.prog 72 = some 0 := by kernel_rfl
theorem ag73 : aggT Try.prog 73 = some true := by kernel_rfl
theorem sz73 : sizeOf? Try.prog 73 = some 0 := by kernel_rfl
theorem z73 : zeroOf? Try.prog 73 = some (.agg #[]) := by kernel_rfl
theorem by73 : bytesOf? Try.prog 73 = some 0 := by kernel_rfl
theorem ag75 : aggT Try.prog 75 = some false := by kernel_rfl
theorem sz75 : sizeOf? Try.prog 75 = some 1 := by kernel_rfl
theorem z75 : zeroOf? Try.prog 75 = some (.int .u32 0) := by kernel_rfl
theorem by75 : bytesOf? Try.prog 75 = some 4 := by kernel_rfl
theorem ag78 : aggT Try.prog 78 = some false := by kernel_rfl
theorem sz78 : sizeOf? Try.prog 78 = some 1 := by kernel_rfl
theorem z78 : zeroOf? Try.prog 78 = some (.nilFunc) := by kernel_rfl
theorem ag79 : aggT Try.prog 79 = some false := by kernel_rfl
theorem sz79 : sizeOf? Try.prog 79 = some 1 := by kernel_rfl
theorem z79 : zeroOf? Try.prog 79 = some (.pointer none) := by kernel_rfl
theorem by79 : bytesOf? Try.prog 79 = some 8 := by kernel_rfl
theorem ag84 : aggT Try.prog 84 = some false := by kernel_rfl
theorem sz84 : sizeOf? Try.prog 84 = some 1 := by kernel_rfl
theorem z84 : zeroOf? Try.prog 84 = some (.pointer none) := by kernel_rfl
theorem by84 : bytesOf? Try.prog 84 = some 8 := by kernel_rfl
theorem ag85 : aggT Try.prog 85 = some false := by kernel_rfl
theorem sz85 : sizeOf? Try.prog 85 = some 1 := by kernel_rfl
theorem z85 : zeroOf? Try.prog 85 = some (.int .u64 0) := by kernel_rfl
theorem by85 : bytesOf? Try.prog 85 = some 8 := by kernel_rfl
-- 1: func()
theorem rdo1 {cs : List PV} {off : Nat} : readCells Try.prog 1 cs off = cs[off]? := rd_one ag1
-- 2: int64
theorem rdo2 {cs : List PV} {off : Nat} : readCells Try.prog 2 cs off = cs[off]? := rd_one ag2
theorem alc2 {dr : Bool} {st : PS} {id tk : Nat} {K : PS → Prop} {d : Option Tmp} {ty : TypeId} {pos : String} {af : Array Edge} {g : Option (Nat × Bool)} : stepN dr Try.prog ⟨d, .alloc 2, ty, pos, af, g⟩ st id tk K = K (PS.put { st with heap := (id, .box 2 [.val (.int .i64 0)]) :: st.heap } d (.ptr id 0)) := s_allocC z2 rfl rfl
theorem mki2 {dr : Bool} {st : PS} {id tk : Nat} {K : PS → Prop} {d : Option Tmp} {ty : TypeId} {pos : String} {af : Array Edge} {g : Option (Nat × Bool)} {x : Operand} : stepN dr Try.prog ⟨d, .makeInterface 2 x, ty, pos, af, g⟩ st id tk K = bindO (st.ev x) fun p => K (st.put d (.iface 2 p)) := s_makeIface Try.underlying2 rfl
-- 3: int
theorem rdo3 {cs : List PV} {off : Nat} : readCells Try.prog 3 cs off = cs[off]? := rd_one ag3
theorem alc3 {dr : Bool} {st : PS} {id tk : Nat} {K : PS → Prop} {d : Option Tmp} {ty : TypeId} {pos : String} {af : Array Edge} {g : Option (Nat × Bool)} : stepN dr Try.prog ⟨d, .alloc 3, ty, pos, af, g⟩ st id tk K = K (PS.put { st with heap := (id, .box 3 [.val (.int .i64 0)]) :: st.heap } d (.ptr id 0)) := s_allocC z3 rfl rfl
theorem mki3 {dr : Bool} {st : PS} {id tk : Nat} {K : PS → Prop} {d : Option Tmp} {ty : TypeId} {pos : String} {af : Array Edge} {g : Option (Nat × Bool)} {x : Operand} : stepN dr Try.prog ⟨d, .makeInterface 3 x, ty, pos, af, g⟩ st id tk K = bindO (st.ev x) fun p => K (st.put d (.iface 3 p)) := s_makeIface Try.underlying3 rfl
-- 4: bool
theorem rdo4 {cs : List PV} {off : Nat} : readCells Try.prog 4 cs off = cs[off]? := rd_one ag4
theorem alc4 {dr : Bool} {st : PS} {id tk : Nat} {K : PS → Prop} {d : Option Tmp} {ty : TypeId} {pos : String} {af : Array Edge} {g : Option (Nat × Bool)} : stepN dr Try.prog ⟨d, .alloc 4, ty, pos, af, g⟩ st id tk K = K (PS.put { st with heap := (id, .box 4 [.val (.bool false)]) :: st.heap } d (.ptr id 0)) := s_allocC z4 rfl rfl
-- 5: uint8
theorem rdo5 {cs : List PV} {off : Nat} : readCells Try.prog 5 cs off = cs[off]? := rd_one ag5
theorem alc5 {dr : Bool} {st : PS} {id tk : Nat} {K : PS → Prop} {d : Option Tmp} {ty : TypeId} {pos : String} {af : Array Edge} {g : Option (Nat × Bool)} : stepN dr Try.prog ⟨d, .alloc 5, ty, pos, af, g⟩ st id tk K = K (PS.put { st with heap := (id, .box 5 [.val (.int .u8 0)]) :: st.heap } d (.ptr id 0)) := s_allocC z5 rfl rfl
theorem mki5 {dr : Bool} {st : PS} {id tk : Nat} {K : PS → Prop} {d : Option Tmp} {ty : TypeId} {pos : String} {af : Array Edge} {g : Option (Nat × Bool)} {x : Operand} : stepN dr Try.prog ⟨d, .makeInterface 5 x, ty, pos, af, g⟩ st id tk K = bindO (st.ev x) fun p => K (st.put d (.iface 5 p)) := s_makeIface Try.underlying5 rfl
-- 9: string
theorem rdo9 {cs : List PV} {off : Nat} : readCells Try.prog 9 cs off = cs[off]? := rd_one ag9
theorem alc9 {dr : Bool} {st : PS} {id tk : Nat} {K : PS → Prop} {d : Option Tmp} {ty : TypeId} {pos : String} {af : Array Edge} {g : Option (Nat × Bool)} : stepN dr Try.prog ⟨d, .alloc 9, ty, pos, af, g⟩ st id tk K = K (PS.put { st with heap := (id, .box 9 [.val (.string ByteArray.empty)]) :: st.heap } d (.ptr id 0)) := s_allocC z9 rfl rfl
theorem mki9 {dr : Bool} {st : PS} {id tk : Nat} {K : PS → Prop} {d : Option Tmp} {ty : TypeId} {pos : String} {af : Array Edge} {g : Option (Nat × Bool)} {x : Operand} : stepN dr Try.prog ⟨d, .makeInterface 9 x, ty, pos, af, g⟩ st id tk K = bindO (st.ev x) fun p => K (st.put d (.iface 9 p)) := s_makeIface Try.underlying9 rfl
theorem rng9 {dr : Bool} {st : PS} {id tk : Nat} {K : PS → Prop} {d : Option Tmp} {ty : TypeId} {pos : String} {af : Array Edge} {g : Option (Nat × Bool)} {x : Operand} : stepN dr Try.prog ⟨d, .range 9 x, ty, pos, af, g⟩ st id tk K = bindO (st.ev x) (rngP id d st K) := s_range Try.underlying9
theorem lns9 {st : PS} {x : Operand} {K : PV → Prop} : lenK Try.prog st 9 x K = bindO (st.ev x) (lenS K) := len_string Try.underlying9
theorem ixs9 {st : PS} {x y : Operand} {K : PV → Prop} : indexK Try.prog st 9 x y K = bindO (st.ev x) fun p => bindO (st.ev y) fun q => intK q fun i => ixS i K p := ix_string Try.underlying9
theorem sls9 {st : PS} {x : Operand} {lo hi : Option Operand} {K : PV → Prop} : sliceK Try.prog st 9 x lo hi K = bindO (st.ev x) (slcS st lo hi K) := slc_string Try.underlying9
-- 12: uintptr
theorem rdo12 {cs : List PV} {off : Nat} : readCells Try.prog 12 cs off = cs[off]? := rd_one ag12
theorem alc12 {dr : Bool} {st : PS} {id tk : Nat} {K : PS → Prop} {d : Option Tmp} {ty : TypeId} {pos : String} {af : Array Edge} {g : Option (Nat × Bool)} : stepN dr Try.prog ⟨d, .alloc 12, ty, pos, af, g⟩ st id tk K = K (PS.put { st with heap := (id, .box 12 [.val (.int .u64 0)]) :: st.heap } d (.ptr id 0)) := s_allocC z12 rfl rfl
theorem mki12 {dr : Bool} {st : PS} {id tk : Nat} {K : PS → Prop} {d : Option Tmp} {ty : TypeId} {pos : String} {af : Array Edge} {g : Option (Nat × Bool)} {x : Operand} : stepN dr Try.prog ⟨d, .makeInterface 12 x, ty, pos, af, g⟩ st id tk K = bindO (st.ev x) fun p => K (st.put d (.iface 12 p)) := s_makeIface Try.underlying12 rfl
-- 13: struct { msg string; addr uintptr }
theorem rda13 {cs : List PV} {off : Nat} : readCells Try.prog 13 cs off = if off + 2 ≤ cs.length then some (.agg ((cs.drop off).take 2)) else none := rd_agg ag13 sz13
theorem alc13 {dr : Bool} {st : PS} {id tk : Nat} {K : PS → Prop} {d : Option Tmp} {ty : TypeId} {pos : String} {af : Array Edge} {g : Option (Nat × Bool)} : stepN dr Try.prog ⟨d, .alloc 13, ty, pos, af, g⟩ st id tk K = K (PS.put { st with heap := (id, .box 13 [.val (.string ByteArray.empty), .val (.int .u64 0)]) :: st.heap } d (.ptr id 0)) := s_allocC z13 rfl rfl
theorem mki13 {dr : Bool} {st : PS} {id tk : Nat} {K : PS → Prop} {d : Option Tmp} {ty : TypeId} {pos : String} {af : Array Edge} {g : Option (Nat × Bool)} {x : Operand} : stepN dr Try.prog ⟨d, .makeInterface 13 x, ty, pos, af, g⟩ st id tk K = bindO (st.ev x) fun p => K (st.put d (.iface 13 p)) := s_makeIface Try.underlying13 rfl
theorem fa13_0 {st : PS} {x : Operand} {K : PV → Prop} : fieldAddrK Try.prog st 13 x 0 K = bindO (st.ev x) (fldP 0 K) :=
  fld_ (P := Try.prog) (st := st) (x := x) (K := K) (f := 0) Try.underlying13 rfl sz9 (by decide)
theorem fi13_0 {st : PS} {x : Operand} {K : PV → Prop} : fieldK Try.prog st 13 x 0 K = bindO (st.ev x) (fieldP Try.prog 9 0 K) :=
  field_ (P := Try.prog) (st := st) (x := x) (K := K) (f := 0) Try.underlying13 rfl
theorem fa13_1 {st : PS} {x : Operand} {K : PV → Prop} : fieldAddrK Try.prog st 13 x 1 K = bindO (st.ev x) (fldP 1 K) :=
  fld_ (P := Try.prog) (st := st) (x := x) (K := K) (f := 1) Try.underlying13 rfl sz12 (by decide)
theorem fi13_1 {st : PS} {x : Operand} {K : PV → Prop} : fieldK Try.prog st 13 x 1 K = bindO (st.ev x) (fieldP Try.prog 12 1 K) :=
  field_ (P := Try.prog) (st := st) (x := x) (K := K) (f := 1) Try.underlying13 rfl
theorem bld13 {st : PS} {l : List (Nat × Operand)} {K : PV → Prop} : buildK Try.prog st 13 l K = bindO (evParts st l) fun ps => (ps.all fun e => match e.2 with | .tup _ => false | _ => true) = true ∧ bindO (fillP (fun i => [(0, 1), (1, 1)][i]?) [.val (.string ByteArray.empty), .val (.int .u64 0)] ps) fun cs => K (.agg cs) :=
  buildC Try.underlying13 z13 (by kernel_rfl) rfl rfl
-- 20: interface {}
theorem rdo20 {cs : List PV} {off : Nat} : readCells Try.prog 20 cs off = cs[off]? := rd_one ag20
theorem alc20 {dr : Bool} {st : PS} {id tk : Nat} {K : PS → Prop} {d : Option Tmp} {ty : TypeId} {pos : String} {af : Array Edge} {g : Option (Nat × Bool)} : stepN dr Try.prog ⟨d, .alloc 20, ty, pos, af, g⟩ st id tk K = K (PS.put { st with heap := (id, .box 20 [.val (.nilIface)]) :: st.heap } d (.ptr id 0)) := s_allocC z20 rfl rfl
theorem ifx20 : (∃ ms, Try.prog.underlying 20 = some (.interface ms)) = True := eq_true ⟨_, Try.underlying20⟩
-- 21: int32
theorem rdo21 {cs : List PV} {off : Nat} : readCells Try.prog 21 cs off = cs[off]? := rd_one ag21
theorem alc21 {dr : Bool} {st : PS} {id tk : Nat} {K : PS → Prop} {d : Option Tmp} {ty : TypeId} {pos : String} {af : Array Edge} {g : Option (Nat × Bool)} : stepN dr Try.prog ⟨d, .alloc 21, ty, pos, af, g⟩ st id tk K = K (PS.put { st with heap := (id, .box 21 [.val (.int .i32 0)]) :: st.heap } d (.ptr id 0)) := s_allocC z21 rfl rfl
theorem mki21 {dr : Bool} {st : PS} {id tk : Nat} {K : PS → Prop} {d : Option Tmp} {ty : TypeId} {pos : String} {af : Array Edge} {g : Option (Nat × Bool)} {x : Operand} : stepN dr Try.prog ⟨d, .makeInterface 21 x, ty, pos, af, g⟩ st id tk K = bindO (st.ev x) fun p => K (st.put d (.iface 21 p)) := s_makeIface Try.underlying21 rfl
-- 22: []int
theorem rdo22 {cs : List PV} {off : Nat} : readCells Try.prog 22 cs off = cs[off]? := rd_one ag22
theorem alc22 {dr : Bool} {st : PS} {id tk : Nat} {K : PS → Prop} {d : Option Tmp} {ty : TypeId} {pos : String} {af : Array Edge} {g : Option (Nat × Bool)} : stepN dr Try.prog ⟨d, .alloc 22, ty, pos, af, g⟩ st id tk K = K (PS.put { st with heap := (id, .box 22 [.val (.slice none 0 0)]) :: st.heap } d (.ptr id 0)) := s_allocC z22 rfl rfl
theorem lns22 {st : PS} {x : Operand} {K : PV → Prop} : lenK Try.prog st 22 x K = bindO (st.ev x) (lenP K) := len_slice Try.underlying22
theorem ixs22 {st : PS} {x y : Operand} {K : PV → Prop} : indexAddrK Try.prog st 22 x y K = bindO (st.ev x) fun p => bindO (st.ev y) fun q => intK q fun i => ixP 1 i K p := ix_slice Try.underlying22 sz3
theorem sls22 {st : PS} {x : Operand} {lo hi : Option Operand} {K : PV → Prop} : sliceK Try.prog st 22 x lo hi K = bindO (st.ev x) (slcP 1 st lo hi K) := slc_slice Try.underlying22 sz3
theorem app22 {st : PS} {tk : Nat} {x y : Operand} {K : Delta → Prop} : appendK Try.prog st tk ⟨.builtin .append, #[x, y], #[22, 22]⟩ K = bindO (st.ev x) fun d => bindO (st.ev y) fun s => bindO (srcXs st 1 s) fun ys0 => bindO (fzLL ys0) fun ys => (∀ y ∈ ys, y.length = 1) ∧ appT 3 1 8 st tk K d ys :=
  append_t Try.underlying22 sz3 by3 z3 rfl (by decide)
theorem bs22 {dr : Bool} {st : PS} {id tk n : Nat} {K : PS → Prop} {d : Option Tmp} {ty : TypeId} {pos : String} {af : Array Edge} {g : Option (Nat × Bool)} {l : List (Nat × Operand)} :
    stepN dr Try.prog ⟨d, .buildSlice 22 n l.toArray, ty, pos, af, g⟩ st id tk K = bindO (evParts st l) fun ps => bindO (valsOf ps 0) fun xs => (∀ x ∈ xs, x.length = 1) ∧ xs.length = n ∧ n * 1 ≤ 16777216 ∧ K (PS.put { st with toks := upd st.toks tk ⟨3, 1, n⟩ } d (.row tk xs)) :=
  s_buildSlice Try.underlying22 sz3 z3 (by decide) rfl
theorem mks22 {dr : Bool} {st : PS} {id tk : Nat} {K : PS → Prop} {d : Option Tmp} {ty : TypeId} {pos : String} {af : Array Edge} {g : Option (Nat × Bool)} {l c : Operand} : stepN dr Try.prog ⟨d, .makeSlice 22 l c, ty, pos, af, g⟩ st id tk K = bindO (st.ev l) fun p => bindO (st.ev c) fun q => intK p fun n => intK q fun m => n = m ∧ 0 ≤ n ∧ n ≤ 9223372036854775807 ∧ 8 * n ≤ 281474976710656 ∧
    K (PS.put { st with heap := (id, .box 3 ((List.range (n.toNat * 1)).map fun i => [.val (.int .i64 0)].getD (i % 1) (.val .nilIface))) :: st.heap } d (.ms id 0 n.toNat n.toNat)) :=
  s_makeSlice Try.underlying22 sz3 by3 z3 rfl rfl (by decide) rfl
-- 23: func() bool
theorem rdo23 {cs : List PV} {off : Nat} : readCells Try.prog 23 cs off = cs[off]? := rd_one ag23
-- 24: func([]int) bool
theorem rdo24 {cs : List PV} {off : Nat} : readCells Try.prog 24 cs off = cs[off]? := rd_one ag24
-- 25: func([]int, uint8) bool
theorem rdo25 {cs : List PV} {off : Nat} : readCells Try.prog 25 cs off = cs[off]? := rd_one ag25
-- 26: func([]int, []int) bool
theorem rdo26 {cs : List PV} {off : Nat} : readCells Try.prog 26 cs off = cs[off]? := rd_one ag26
-- 27: func([]int, []int) int
theorem rdo27 {cs : List PV} {off : Nat} : readCells Try.prog 27 cs off = cs[off]? := rd_one ag27
-- 28: func([]int, []int, []int) bool
theorem rdo28 {cs : List PV} {off : Nat} : readCells Try.prog 28 cs off = cs[off]? := rd_one ag28
-- 29: struct { Numbers []int; Seed int64; Mixed bool }
theorem rda29 {cs : List PV} {off : Nat} : readCells Try.prog 29 cs off = if off + 3 ≤ cs.length then some (.agg ((cs.drop off).take 3)) else none := rd_agg ag29 sz29
theorem alc29 {dr : Bool} {st : PS} {id tk : Nat} {K : PS → Prop} {d : Option Tmp} {ty : TypeId} {pos : String} {af : Array Edge} {g : Option (Nat × Bool)} : stepN dr Try.prog ⟨d, .alloc 29, ty, pos, af, g⟩ st id tk K = K (PS.put { st with heap := (id, .box 29 [.val (.slice none 0 0), .val (.int .i64 0), .val (.bool false)]) :: st.heap } d (.ptr id 0)) := s_allocC z29 rfl rfl
theorem mki29 {dr : Bool} {st : PS} {id tk : Nat} {K : PS → Prop} {d : Option Tmp} {ty : TypeId} {pos : String} {af : Array Edge} {g : Option (Nat × Bool)} {x : Operand} : stepN dr Try.prog ⟨d, .makeInterface 29 x, ty, pos, af, g⟩ st id tk K = bindO (st.ev x) fun p => K (st.put d (.iface 29 p)) := s_makeIface Try.underlying29 rfl
theorem fa29_0 {st : PS} {x : Operand} {K : PV → Prop} : fieldAddrK Try.prog st 29 x 0 K = bindO (st.ev x) (fldP 0 K) :=
  fld_ (P := Try.prog) (st := st) (x := x) (K := K) (f := 0) Try.underlying29 rfl sz22 (by decide)
theorem fi29_0 {st : PS} {x : Operand} {K : PV → Prop} : fieldK Try.prog st 29 x 0 K = bindO (st.ev x) (fieldP Try.prog 22 0 K) :=
  field_ (P := Try.prog) (st := st) (x := x) (K := K) (f := 0) Try.underlying29 rfl
theorem fa29_1 {st : PS} {x : Operand} {K : PV → Prop} : fieldAddrK Try.prog st 29 x 1 K = bindO (st.ev x) (fldP 1 K) :=
  fld_ (P := Try.prog) (st := st) (x := x) (K := K) (f := 1) Try.underlying29 rfl sz2 (by decide)
theorem fi29_1 {st : PS} {x : Operand} {K : PV → Prop} : fieldK Try.prog st 29 x 1 K = bindO (st.ev x) (fieldP Try.prog 2 1 K) :=
  field_ (P := Try.prog) (st := st) (x := x) (K := K) (f := 1) Try.underlying29 rfl
theorem fa29_2 {st : PS} {x : Operand} {K : PV → Prop} : fieldAddrK Try.prog st 29 x 2 K = bindO (st.ev x) (fldP 2 K) :=
  fld_ (P := Try.prog) (st := st) (x := x) (K := K) (f := 2) Try.underlying29 rfl sz4 (by decide)
theorem fi29_2 {st : PS} {x : Operand} {K : PV → Prop} : fieldK Try.prog st 29 x 2 K = bindO (st.ev x) (fieldP Try.prog 4 2 K) :=
  field_ (P := Try.prog) (st := st) (x := x) (K := K) (f := 2) Try.underlying29 rfl
theorem bld29 {st : PS} {l : List (Nat × Operand)} {K : PV → Prop} : buildK Try.prog st 29 l K = bindO (evParts st l) fun ps => (ps.all fun e => match e.2 with | .tup _ => false | _ => true) = true ∧ bindO (fillP (fun i => [(0, 1), (1, 1), (2, 1)][i]?) [.val (.slice none 0 0), .val (.int .i64 0), .val (.bool false)] ps) fun cs => K (.agg cs) :=
  buildC Try.underlying29 z29 (by kernel_rfl) rfl rfl
-- 30: chevallaw12.Play
theorem rda30 {cs : List PV} {off : Nat} : readCells Try.prog 30 cs off = if off + 3 ≤ cs.length then some (.agg ((cs.drop off).take 3)) else none := rd_agg ag30 sz30
theorem alc30 {dr : Bool} {st : PS} {id tk : Nat} {K : PS → Prop} {d : Option Tmp} {ty : TypeId} {pos : String} {af : Array Edge} {g : Option (Nat × Bool)} : stepN dr Try.prog ⟨d, .alloc 30, ty, pos, af, g⟩ st id tk K = K (PS.put { st with heap := (id, .box 30 [.val (.slice none 0 0), .val (.int .i64 0), .val (.bool false)]) :: st.heap } d (.ptr id 0)) := s_allocC z30 rfl rfl
theorem mki30 {dr : Bool} {st : PS} {id tk : Nat} {K : PS → Prop} {d : Option Tmp} {ty : TypeId} {pos : String} {af : Array Edge} {g : Option (Nat × Bool)} {x : Operand} : stepN dr Try.prog ⟨d, .makeInterface 30 x, ty, pos, af, g⟩ st id tk K = bindO (st.ev x) fun p => K (st.put d (.iface 30 p)) := s_makeIface Try.underlying30 rfl
theorem fa30_0 {st : PS} {x : Operand} {K : PV → Prop} : fieldAddrK Try.prog st 30 x 0 K = bindO (st.ev x) (fldP 0 K) :=
  fld_ (P := Try.prog) (st := st) (x := x) (K := K) (f := 0) Try.underlying30 rfl sz22 (by decide)
theorem fi30_0 {st : PS} {x : Operand} {K : PV → Prop} : fieldK Try.prog st 30 x 0 K = bindO (st.ev x) (fieldP Try.prog 22 0 K) :=
  field_ (P := Try.prog) (st := st) (x := x) (K := K) (f := 0) Try.underlying30 rfl
theorem fa30_1 {st : PS} {x : Operand} {K : PV → Prop} : fieldAddrK Try.prog st 30 x 1 K = bindO (st.ev x) (fldP 1 K) :=
  fld_ (P := Try.prog) (st := st) (x := x) (K := K) (f := 1) Try.underlying30 rfl sz2 (by decide)
theorem fi30_1 {st : PS} {x : Operand} {K : PV → Prop} : fieldK Try.prog st 30 x 1 K = bindO (st.ev x) (fieldP Try.prog 2 1 K) :=
  field_ (P := Try.prog) (st := st) (x := x) (K := K) (f := 1) Try.underlying30 rfl
theorem fa30_2 {st : PS} {x : Operand} {K : PV → Prop} : fieldAddrK Try.prog st 30 x 2 K = bindO (st.ev x) (fldP 2 K) :=
  fld_ (P := Try.prog) (st := st) (x := x) (K := K) (f := 2) Try.underlying30 rfl sz4 (by decide)
theorem fi30_2 {st : PS} {x : Operand} {K : PV → Prop} : fieldK Try.prog st 30 x 2 K = bindO (st.ev x) (fieldP Try.prog 4 2 K) :=
  field_ (P := Try.prog) (st := st) (x := x) (K := K) (f := 2) Try.underlying30 rfl
theorem bld30 {st : PS} {l : List (Nat × Operand)} {K : PV → Prop} : buildK Try.prog st 30 l K = bindO (evParts st l) fun ps => (ps.all fun e => match e.2 with | .tup _ => false | _ => true) = true ∧ bindO (fillP (fun i => [(0, 1), (1, 1), (2, 1)][i]?) [.val (.slice none 0 0), .val (.int .i64 0), .val (.bool false)] ps) fun cs => K (.agg cs) :=
  buildC Try.underlying30 z30 (by kernel_rfl) rfl rfl
-- 31: uint64
theorem rdo31 {cs : List PV} {off : Nat} : readCells Try.prog 31 cs off = cs[off]? := rd_one ag31
theorem alc31 {dr : Bool} {st : PS} {id tk : Nat} {K : PS → Prop} {d : Option Tmp} {ty : TypeId} {pos : String} {af : Array Edge} {g : Option (Nat × Bool)} : stepN dr Try.prog ⟨d, .alloc 31, ty, pos, af, g⟩ st id tk K = K (PS.put { st with heap := (id, .box 31 [.val (.int .u64 0)]) :: st.heap } d (.ptr id 0)) := s_allocC z31 rfl rfl
theorem mki31 {dr : Bool} {st : PS} {id tk : Nat} {K : PS → Prop} {d : Option Tmp} {ty : TypeId} {pos : String} {af : Array Edge} {g : Option (Nat × Bool)} {x : Operand} : stepN dr Try.prog ⟨d, .makeInterface 31 x, ty, pos, af, g⟩ st id tk K = bindO (st.ev x) fun p => K (st.put d (.iface 31 p)) := s_makeIface Try.underlying31 rfl
-- 32: struct { Numbers []int; Mixed bool; State uint64; Used int }
theorem rda32 {cs : List PV} {off : Nat} : readCells Try.prog 32 cs off = if off + 4 ≤ cs.length then some (.agg ((cs.drop off).take 4)) else none := rd_agg ag32 sz32
theorem alc32 {dr : Bool} {st : PS} {id tk : Nat} {K : PS → Prop} {d : Option Tmp} {ty : TypeId} {pos : String} {af : Array Edge} {g : Option (Nat × Bool)} : stepN dr Try.prog ⟨d, .alloc 32, ty, pos, af, g⟩ st id tk K = K (PS.put { st with heap := (id, .box 32 [.val (.slice none 0 0), .val (.bool false), .val (.int .u64 0), .val (.int .i64 0)]) :: st.heap } d (.ptr id 0)) := s_allocC z32 rfl rfl
theorem mki32 {dr : Bool} {st : PS} {id tk : Nat} {K : PS → Prop} {d : Option Tmp} {ty : TypeId} {pos : String} {af : Array Edge} {g : Option (Nat × Bool)} {x : Operand} : stepN dr Try.prog ⟨d, .makeInterface 32 x, ty, pos, af, g⟩ st id tk K = bindO (st.ev x) fun p => K (st.put d (.iface 32 p)) := s_makeIface Try.underlying32 rfl
theorem fa32_0 {st : PS} {x : Operand} {K : PV → Prop} : fieldAddrK Try.prog st 32 x 0 K = bindO (st.ev x) (fldP 0 K) :=
  fld_ (P := Try.prog) (st := st) (x := x) (K := K) (f := 0) Try.underlying32 rfl sz22 (by decide)
theorem fi32_0 {st : PS} {x : Operand} {K : PV → Prop} : fieldK Try.prog st 32 x 0 K = bindO (st.ev x) (fieldP Try.prog 22 0 K) :=
  field_ (P := Try.prog) (st := st) (x := x) (K := K) (f := 0) Try.underlying32 rfl
theorem fa32_1 {st : PS} {x : Operand} {K : PV → Prop} : fieldAddrK Try.prog st 32 x 1 K = bindO (st.ev x) (fldP 1 K) :=
  fld_ (P := Try.prog) (st := st) (x := x) (K := K) (f := 1) Try.underlying32 rfl sz4 (by decide)
theorem fi32_1 {st : PS} {x : Operand} {K : PV → Prop} : fieldK Try.prog st 32 x 1 K = bindO (st.ev x) (fieldP Try.prog 4 1 K) :=
  field_ (P := Try.prog) (st := st) (x := x) (K := K) (f := 1) Try.underlying32 rfl
theorem fa32_2 {st : PS} {x : Operand} {K : PV → Prop} : fieldAddrK Try.prog st 32 x 2 K = bindO (st.ev x) (fldP 2 K) :=
  fld_ (P := Try.prog) (st := st) (x := x) (K := K) (f := 2) Try.underlying32 rfl sz31 (by decide)
theorem fi32_2 {st : PS} {x : Operand} {K : PV → Prop} : fieldK Try.prog st 32 x 2 K = bindO (st.ev x) (fieldP Try.prog 31 2 K) :=
  field_ (P := Try.prog) (st := st) (x := x) (K := K) (f := 2) Try.underlying32 rfl
theorem fa32_3 {st : PS} {x : Operand} {K : PV → Prop} : fieldAddrK Try.prog st 32 x 3 K = bindO (st.ev x) (fldP 3 K) :=
  fld_ (P := Try.prog) (st := st) (x := x) (K := K) (f := 3) Try.underlying32 rfl sz3 (by decide)
theorem fi32_3 {st : PS} {x : Operand} {K : PV → Prop} : fieldK Try.prog st 32 x 3 K = bindO (st.ev x) (fieldP Try.prog 3 3 K) :=
  field_ (P := Try.prog) (st := st) (x := x) (K := K) (f := 3) Try.underlying32 rfl
theorem bld32 {st : PS} {l : List (Nat × Operand)} {K : PV → Prop} : buildK Try.prog st 32 l K = bindO (evParts st l) fun ps => (ps.all fun e => match e.2 with | .tup _ => false | _ => true) = true ∧ bindO (fillP (fun i => [(0, 1), (1, 1), (2, 1), (3, 1)][i]?) [.val (.slice none 0 0), .val (.bool false), .val (.int .u64 0), .val (.int .i64 0)] ps) fun cs => K (.agg cs) :=
  buildC Try.underlying32 z32 (by kernel_rfl) rfl rfl
-- 33: chevalref12.Source
theorem rda33 {cs : List PV} {off : Nat} : readCells Try.prog 33 cs off = if off + 4 ≤ cs.length then some (.agg ((cs.drop off).take 4)) else none := rd_agg ag33 sz33
theorem alc33 {dr : Bool} {st : PS} {id tk : Nat} {K : PS → Prop} {d : Option Tmp} {ty : TypeId} {pos : String} {af : Array Edge} {g : Option (Nat × Bool)} : stepN dr Try.prog ⟨d, .alloc 33, ty, pos, af, g⟩ st id tk K = K (PS.put { st with heap := (id, .box 33 [.val (.slice none 0 0), .val (.bool false), .val (.int .u64 0), .val (.int .i64 0)]) :: st.heap } d (.ptr id 0)) := s_allocC z33 rfl rfl
theorem mki33 {dr : Bool} {st : PS} {id tk : Nat} {K : PS → Prop} {d : Option Tmp} {ty : TypeId} {pos : String} {af : Array Edge} {g : Option (Nat × Bool)} {x : Operand} : stepN dr Try.prog ⟨d, .makeInterface 33 x, ty, pos, af, g⟩ st id tk K = bindO (st.ev x) fun p => K (st.put d (.iface 33 p)) := s_makeIface Try.underlying33 rfl
theorem fa33_0 {st : PS} {x : Operand} {K : PV → Prop} : fieldAddrK Try.prog st 33 x 0 K = bindO (st.ev x) (fldP 0 K) :=
  fld_ (P := Try.prog) (st := st) (x := x) (K := K) (f := 0) Try.underlying33 rfl sz22 (by decide)
theorem fi33_0 {st : PS} {x : Operand} {K : PV → Prop} : fieldK Try.prog st 33 x 0 K = bindO (st.ev x) (fieldP Try.prog 22 0 K) :=
  field_ (P := Try.prog) (st := st) (x := x) (K := K) (f := 0) Try.underlying33 rfl
theorem fa33_1 {st : PS} {x : Operand} {K : PV → Prop} : fieldAddrK Try.prog st 33 x 1 K = bindO (st.ev x) (fldP 1 K) :=
  fld_ (P := Try.prog) (st := st) (x := x) (K := K) (f := 1) Try.underlying33 rfl sz4 (by decide)
theorem fi33_1 {st : PS} {x : Operand} {K : PV → Prop} : fieldK Try.prog st 33 x 1 K = bindO (st.ev x) (fieldP Try.prog 4 1 K) :=
  field_ (P := Try.prog) (st := st) (x := x) (K := K) (f := 1) Try.underlying33 rfl
theorem fa33_2 {st : PS} {x : Operand} {K : PV → Prop} : fieldAddrK Try.prog st 33 x 2 K = bindO (st.ev x) (fldP 2 K) :=
  fld_ (P := Try.prog) (st := st) (x := x) (K := K) (f := 2) Try.underlying33 rfl sz31 (by decide)
theorem fi33_2 {st : PS} {x : Operand} {K : PV → Prop} : fieldK Try.prog st 33 x 2 K = bindO (st.ev x) (fieldP Try.prog 31 2 K) :=
  field_ (P := Try.prog) (st := st) (x := x) (K := K) (f := 2) Try.underlying33 rfl
theorem fa33_3 {st : PS} {x : Operand} {K : PV → Prop} : fieldAddrK Try.prog st 33 x 3 K = bindO (st.ev x) (fldP 3 K) :=
  fld_ (P := Try.prog) (st := st) (x := x) (K := K) (f := 3) Try.underlying33 rfl sz3 (by decide)
theorem fi33_3 {st : PS} {x : Operand} {K : PV → Prop} : fieldK Try.prog st 33 x 3 K = bindO (st.ev x) (fieldP Try.prog 3 3 K) :=
  field_ (P := Try.prog) (st := st) (x := x) (K := K) (f := 3) Try.underlying33 rfl
theorem bld33 {st : PS} {l : List (Nat × Operand)} {K : PV → Prop} : buildK Try.prog st 33 l K = bindO (evParts st l) fun ps => (ps.all fun e => match e.2 with | .tup _ => false | _ => true) = true ∧ bindO (fillP (fun i => [(0, 1), (1, 1), (2, 1), (3, 1)][i]?) [.val (.slice none 0 0), .val (.bool false), .val (.int .u64 0), .val (.int .i64 0)] ps) fun cs => K (.agg cs) :=
  buildC Try.underlying33 z33 (by kernel_rfl) rfl rfl
-- 34: Next
theorem rdo34 {cs : List PV} {off : Nat} : readCells Try.prog 34 cs off = cs[off]? := rd_one ag34
theorem alc34 {dr : Bool} {st : PS} {id tk : Nat} {K : PS → Prop} {d : Option Tmp} {ty : TypeId} {pos : String} {af : Array Edge} {g : Option (Nat × Bool)} : stepN dr Try.prog ⟨d, .alloc 34, ty, pos, af, g⟩ st id tk K = K (PS.put { st with heap := (id, .box 34 [.val (.nilIface)]) :: st.heap } d (.ptr id 0)) := s_allocC z34 rfl rfl
theorem ifx34 : (∃ ms, Try.prog.underlying 34 = some (.interface ms)) = True := eq_true ⟨_, Try.underlying34⟩
-- 35: draw.Source
theorem rdo35 {cs : List PV} {off : Nat} : readCells Try.prog 35 cs off = cs[off]? := rd_one ag35
theorem alc35 {dr : Bool} {st : PS} {id tk : Nat} {K : PS → Prop} {d : Option Tmp} {ty : TypeId} {pos : String} {af : Array Edge} {g : Option (Nat × Bool)} : stepN dr Try.prog ⟨d, .alloc 35, ty, pos, af, g⟩ st id tk K = K (PS.put { st with heap := (id, .box 35 [.val (.nilIface)]) :: st.heap } d (.ptr id 0)) := s_allocC z35 rfl rfl
theorem ifx35 : (∃ ms, Try.prog.underlying 35 = some (.interface ms)) = True := eq_true ⟨_, Try.underlying35⟩
-- 37: func([]int, int64, bool) (chevalref12.Source, draw.Source)
theorem rdo37 {cs : List PV} {off : Nat} : readCells Try.prog 37 cs off = cs[off]? := rd_one ag37
-- 39: func(chevalref12.Source, int) (chevalref12.Source, int)
theorem rdo39 {cs : List PV} {off : Nat} : readCells Try.prog 39 cs off = cs[off]? := rd_one ag39
-- 40: func(int) int
theorem rdo40 {cs : List PV} {off : Nat} : readCells Try.prog 40 cs off = cs[off]? := rd_one ag40
-- 41: func() int
theorem rdo41 {cs : List PV} {off : Nat} : readCells Try.prog 41 cs off = cs[off]? := rd_one ag41
-- 42: func(chevallaw12.Play, []int) bool
theorem rdo42 {cs : List PV} {off : Nat} : readCells Try.prog 42 cs off = cs[off]? := rd_one ag42
-- 43: []uint8
theorem rdo43 {cs : List PV} {off : Nat} : readCells Try.prog 43 cs off = cs[off]? := rd_one ag43
theorem alc43 {dr : Bool} {st : PS} {id tk : Nat} {K : PS → Prop} {d : Option Tmp} {ty : TypeId} {pos : String} {af : Array Edge} {g : Option (Nat × Bool)} : stepN dr Try.prog ⟨d, .alloc 43, ty, pos, af, g⟩ st id tk K = K (PS.put { st with heap := (id, .box 43 [.val (.slice none 0 0)]) :: st.heap } d (.ptr id 0)) := s_allocC z43 rfl rfl
theorem lns43 {st : PS} {x : Operand} {K : PV → Prop} : lenK Try.prog st 43 x K = bindO (st.ev x) (lenP K) := len_slice Try.underlying43
theorem ixs43 {st : PS} {x y : Operand} {K : PV → Prop} : indexAddrK Try.prog st 43 x y K = bindO (st.ev x) fun p => bindO (st.ev y) fun q => intK q fun i => ixP 1 i K p := ix_slice Try.underlying43 sz5
theorem sls43 {st : PS} {x : Operand} {lo hi : Option Operand} {K : PV → Prop} : sliceK Try.prog st 43 x lo hi K = bindO (st.ev x) (slcP 1 st lo hi K) := slc_slice Try.underlying43 sz5
theorem app43 {st : PS} {tk : Nat} {x y : Operand} {K : Delta → Prop} : appendK Try.prog st tk ⟨.builtin .append, #[x, y], #[43, 43]⟩ K = bindO (st.ev x) fun d => bindO (st.ev y) fun s => bindO (srcXs st 1 s) fun ys0 => bindO (fzLL ys0) fun ys => (∀ y ∈ ys, y.length = 1) ∧ appT 5 1 1 st tk K d ys :=
  append_t Try.underlying43 sz5 by5 z5 rfl (by decide)
theorem bs43 {dr : Bool} {st : PS} {id tk n : Nat} {K : PS → Prop} {d : Option Tmp} {ty : TypeId} {pos : String} {af : Array Edge} {g : Option (Nat × Bool)} {l : List (Nat × Operand)} :
    stepN dr Try.prog ⟨d, .buildSlice 43 n l.toArray, ty, pos, af, g⟩ st id tk K = bindO (evParts st l) fun ps => bindO (valsOf ps 0) fun xs => (∀ x ∈ xs, x.length = 1) ∧ xs.length = n ∧ n * 1 ≤ 16777216 ∧ K (PS.put { st with toks := upd st.toks tk ⟨5, 1, n⟩ } d (.row tk xs)) :=
  s_buildSlice Try.underlying43 sz5 z5 (by decide) rfl
theorem isb43 : isBytes Try.prog 43 = True := eq_true ⟨5, Try.underlying43, Try.underlying5⟩
theorem aps43 {st : PS} {tk : Nat} {x y : Operand} {K : Delta → Prop} : appendK Try.prog st tk ⟨.builtin .append, #[x, y], #[43, 9]⟩ K = bindO (st.ev x) fun d => bindO (st.ev y) fun s => appS 5 1 st tk K d s :=
  append_s Try.underlying43 Try.underlying9 sz5 by5 z5
theorem cvr43 {k : Nat} {xs : List Int} {K : PV → Prop} : convK Try.prog 43 9 (rowC k xs) K = K (.val (.string (strOfNums xs))) := conv_rowC (by rw [Try.underlying43]; rfl) ⟨5, Try.underlying43, Try.underlying5⟩ Try.underlying9
theorem mks43 {dr : Bool} {st : PS} {id tk : Nat} {K : PS → Prop} {d : Option Tmp} {ty : TypeId} {pos : String} {af : Array Edge} {g : Option (Nat × Bool)} {l c : Operand} : stepN dr Try.prog ⟨d, .makeSlice 43 l c, ty, pos, af, g⟩ st id tk K = bindO (st.ev l) fun p => bindO (st.ev c) fun q => intK p fun n => intK q fun m => n = m ∧ 0 ≤ n ∧ n ≤ 9223372036854775807 ∧ 1 * n ≤ 281474976710656 ∧
    K (PS.put { st with heap := (id, .box 5 ((List.range (n.toNat * 1)).map fun i => [.val (.int .u8 0)].getD (i % 1) (.val .nilIface))) :: st.heap } d (.ms id 0 n.toNat n.toNat)) :=
  s_makeSlice Try.underlying43 sz5 by5 z5 rfl rfl (by decide) rfl
-- 44: api.Errno
theorem rdo44 {cs : List PV} {off : Nat} : readCells Try.prog 44 cs off = cs[off]? := rd_one ag44
theorem alc44 {dr : Bool} {st : PS} {id tk : Nat} {K : PS → Prop} {d : Option Tmp} {ty : TypeId} {pos : String} {af : Array Edge} {g : Option (Nat × Bool)} : stepN dr Try.prog ⟨d, .alloc 44, ty, pos, af, g⟩ st id tk K = K (PS.put { st with heap := (id, .box 44 [.val (.int .i64 0)]) :: st.heap } d (.ptr id 0)) := s_allocC z44 rfl rfl
theorem mki44 {dr : Bool} {st : PS} {id tk : Nat} {K : PS → Prop} {d : Option Tmp} {ty : TypeId} {pos : String} {af : Array Edge} {g : Option (Nat × Bool)} {x : Operand} : stepN dr Try.prog ⟨d, .makeInterface 44 x, ty, pos, af, g⟩ st id tk K = bindO (st.ev x) fun p => K (st.put d (.iface 44 p)) := s_makeIface Try.underlying44 rfl
-- 46: func(draw.Source, []int) (int, api.Errno)
theorem rdo46 {cs : List PV} {off : Nat} : readCells Try.prog 46 cs off = cs[off]? := rd_one ag46
-- 47: func([]int) draw.Source
theorem rdo47 {cs : List PV} {off : Nat} : readCells Try.prog 47 cs off = cs[off]? := rd_one ag47
-- 48: func([]uint8) bool
theorem rdo48 {cs : List PV} {off : Nat} : readCells Try.prog 48 cs off = cs[off]? := rd_one ag48
-- 49: [][]int
theorem rdo49 {cs : List PV} {off : Nat} : readCells Try.prog 49 cs off = cs[off]? := rd_one ag49
theorem alc49 {dr : Bool} {st : PS} {id tk : Nat} {K : PS → Prop} {d : Option Tmp} {ty : TypeId} {pos : String} {af : Array Edge} {g : Option (Nat × Bool)} : stepN dr Try.prog ⟨d, .alloc 49, ty, pos, af, g⟩ st id tk K = K (PS.put { st with heap := (id, .box 49 [.val (.slice none 0 0)]) :: st.heap } d (.ptr id 0)) := s_allocC z49 rfl rfl
theorem lns49 {st : PS} {x : Operand} {K : PV → Prop} : lenK Try.prog st 49 x K = bindO (st.ev x) (lenP K) := len_slice Try.underlying49
theorem ixs49 {st : PS} {x y : Operand} {K : PV → Prop} : indexAddrK Try.prog st 49 x y K = bindO (st.ev x) fun p => bindO (st.ev y) fun q => intK q fun i => ixP 1 i K p := ix_slice Try.underlying49 sz22
theorem sls49 {st : PS} {x : Operand} {lo hi : Option Operand} {K : PV → Prop} : sliceK Try.prog st 49 x lo hi K = bindO (st.ev x) (slcP 1 st lo hi K) := slc_slice Try.underlying49 sz22
theorem app49 {st : PS} {tk : Nat} {x y : Operand} {K : Delta → Prop} : appendK Try.prog st tk ⟨.builtin .append, #[x, y], #[49, 49]⟩ K = bindO (st.ev x) fun d => bindO (st.ev y) fun s => bindO (srcXs st 1 s) fun ys0 => bindO (fzLL ys0) fun ys => (∀ y ∈ ys, y.length = 1) ∧ appT 22 1 24 st tk K d ys :=
  append_t Try.underlying49 sz22 by22 z22 rfl (by decide)
theorem bs49 {dr : Bool} {st : PS} {id tk n : Nat} {K : PS → Prop} {d : Option Tmp} {ty : TypeId} {pos : String} {af : Array Edge} {g : Option (Nat × Bool)} {l : List (Nat × Operand)} :
    stepN dr Try.prog ⟨d, .buildSlice 49 n l.toArray, ty, pos, af, g⟩ st id tk K = bindO (evParts st l) fun ps => bindO (valsOf ps 0) fun xs => (∀ x ∈ xs, x.length = 1) ∧ xs.length = n ∧ n * 1 ≤ 16777216 ∧ K (PS.put { st with toks := upd st.toks tk ⟨22, 1, n⟩ } d (.row tk xs)) :=
  s_buildSlice Try.underlying49 sz22 z22 (by decide) rfl
theorem mks49 {dr : Bool} {st : PS} {id tk : Nat} {K : PS → Prop} {d : Option Tmp} {ty : TypeId} {pos : String} {af : Array Edge} {g : Option (Nat × Bool)} {l c : Operand} : stepN dr Try.prog ⟨d, .makeSlice 49 l c, ty, pos, af, g⟩ st id tk K = bindO (st.ev l) fun p => bindO (st.ev c) fun q => intK p fun n => intK q fun m => n = m ∧ 0 ≤ n ∧ n ≤ 9223372036854775807 ∧ 24 * n ≤ 281474976710656 ∧
    K (PS.put { st with heap := (id, .box 22 ((List.range (n.toNat * 1)).map fun i => [.val (.slice none 0 0)].getD (i % 1) (.val .nilIface))) :: st.heap } d (.ms id 0 n.toNat n.toNat)) :=
  s_makeSlice Try.underlying49 sz22 by22 z22 rfl rfl (by decide) rfl
-- 51: func(chevalref12.Source, []int) (chevalref12.Source, int, int)
theorem rdo51 {cs : List PV} {off : Nat} : readCells Try.prog 51 cs off = cs[off]? := rd_one ag51
-- 52: func(chevallaw12.Play, [][]int) bool
theorem rdo52 {cs : List PV} {off : Nat} : readCells Try.prog 52 cs off = cs[off]? := rd_one ag52
-- 53: func(int64) draw.Source
theorem rdo53 {cs : List PV} {off : Nat} : readCells Try.prog 53 cs off = cs[off]? := rd_one ag53
-- 54: func([]int, func(int) bool) bool
theorem rdo54 {cs : List PV} {off : Nat} : readCells Try.prog 54 cs off = cs[off]? := rd_one ag54
-- 55: func(int) bool
theorem rdo55 {cs : List PV} {off : Nat} : readCells Try.prog 55 cs off = cs[off]? := rd_one ag55
-- 56: func(...int) int
theorem rdo56 {cs : List PV} {off : Nat} : readCells Try.prog 56 cs off = cs[off]? := rd_one ag56
-- 57: func(int, int) int
theorem rdo57 {cs : List PV} {off : Nat} : readCells Try.prog 57 cs off = cs[off]? := rd_one ag57
-- 58: func(uint64) uint64
theorem rdo58 {cs : List PV} {off : Nat} : readCells Try.prog 58 cs off = cs[off]? := rd_one ag58
-- 59: *draw.script
theorem rdo59 {cs : List PV} {off : Nat} : readCells Try.prog 59 cs off = cs[off]? := rd_one ag59
theorem alc59 {dr : Bool} {st : PS} {id tk : Nat} {K : PS → Prop} {d : Option Tmp} {ty : TypeId} {pos : String} {af : Array Edge} {g : Option (Nat × Bool)} : stepN dr Try.prog ⟨d, .alloc 59, ty, pos, af, g⟩ st id tk K = K (PS.put { st with heap := (id, .box 59 [.val (.pointer none)]) :: st.heap } d (.ptr id 0)) := s_allocC z59 rfl rfl
theorem mki59 {dr : Bool} {st : PS} {id tk : Nat} {K : PS → Prop} {d : Option Tmp} {ty : TypeId} {pos : String} {af : Array Edge} {g : Option (Nat × Bool)} {x : Operand} : stepN dr Try.prog ⟨d, .makeInterface 59 x, ty, pos, af, g⟩ st id tk K = bindO (st.ev x) fun p => K (st.put d (.iface 59 p)) := s_makeIface Try.underlying59 rfl
-- 60: func([]int) []int
theorem rdo60 {cs : List PV} {off : Nat} : readCells Try.prog 60 cs off = cs[off]? := rd_one ag60
-- 61: struct { used int }
theorem rda61 {cs : List PV} {off : Nat} : readCells Try.prog 61 cs off = if off + 1 ≤ cs.length then some (.agg ((cs.drop off).take 1)) else none := rd_agg ag61 sz61
theorem alc61 {dr : Bool} {st : PS} {id tk : Nat} {K : PS → Prop} {d : Option Tmp} {ty : TypeId} {pos : String} {af : Array Edge} {g : Option (Nat × Bool)} : stepN dr Try.prog ⟨d, .alloc 61, ty, pos, af, g⟩ st id tk K = K (PS.put { st with heap := (id, .box 61 [.val (.int .i64 0)]) :: st.heap } d (.ptr id 0)) := s_allocC z61 rfl rfl
theorem mki61 {dr : Bool} {st : PS} {id tk : Nat} {K : PS → Prop} {d : Option Tmp} {ty : TypeId} {pos : String} {af : Array Edge} {g : Option (Nat × Bool)} {x : Operand} : stepN dr Try.prog ⟨d, .makeInterface 61 x, ty, pos, af, g⟩ st id tk K = bindO (st.ev x) fun p => K (st.put d (.iface 61 p)) := s_makeIface Try.underlying61 rfl
theorem fa61_0 {st : PS} {x : Operand} {K : PV → Prop} : fieldAddrK Try.prog st 61 x 0 K = bindO (st.ev x) (fldP 0 K) :=
  fld_ (P := Try.prog) (st := st) (x := x) (K := K) (f := 0) Try.underlying61 rfl sz3 (by decide)
theorem fi61_0 {st : PS} {x : Operand} {K : PV → Prop} : fieldK Try.prog st 61 x 0 K = bindO (st.ev x) (fieldP Try.prog 3 0 K) :=
  field_ (P := Try.prog) (st := st) (x := x) (K := K) (f := 0) Try.underlying61 rfl
theorem bld61 {st : PS} {l : List (Nat × Operand)} {K : PV → Prop} : buildK Try.prog st 61 l K = bindO (evParts st l) fun ps => (ps.all fun e => match e.2 with | .tup _ => false | _ => true) = true ∧ bindO (fillP (fun i => [(0, 1)][i]?) [.val (.int .i64 0)] ps) fun cs => K (.agg cs) :=
  buildC Try.underlying61 z61 (by kernel_rfl) rfl rfl
-- 62: draw.told
theorem rda62 {cs : List PV} {off : Nat} : readCells Try.prog 62 cs off = if off + 1 ≤ cs.length then some (.agg ((cs.drop off).take 1)) else none := rd_agg ag62 sz62
theorem alc62 {dr : Bool} {st : PS} {id tk : Nat} {K : PS → Prop} {d : Option Tmp} {ty : TypeId} {pos : String} {af : Array Edge} {g : Option (Nat × Bool)} : stepN dr Try.prog ⟨d, .alloc 62, ty, pos, af, g⟩ st id tk K = K (PS.put { st with heap := (id, .box 62 [.val (.int .i64 0)]) :: st.heap } d (.ptr id 0)) := s_allocC z62 rfl rfl
theorem mki62 {dr : Bool} {st : PS} {id tk : Nat} {K : PS → Prop} {d : Option Tmp} {ty : TypeId} {pos : String} {af : Array Edge} {g : Option (Nat × Bool)} {x : Operand} : stepN dr Try.prog ⟨d, .makeInterface 62 x, ty, pos, af, g⟩ st id tk K = bindO (st.ev x) fun p => K (st.put d (.iface 62 p)) := s_makeIface Try.underlying62 rfl
theorem fa62_0 {st : PS} {x : Operand} {K : PV → Prop} : fieldAddrK Try.prog st 62 x 0 K = bindO (st.ev x) (fldP 0 K) :=
  fld_ (P := Try.prog) (st := st) (x := x) (K := K) (f := 0) Try.underlying62 rfl sz3 (by decide)
theorem fi62_0 {st : PS} {x : Operand} {K : PV → Prop} : fieldK Try.prog st 62 x 0 K = bindO (st.ev x) (fieldP Try.prog 3 0 K) :=
  field_ (P := Try.prog) (st := st) (x := x) (K := K) (f := 0) Try.underlying62 rfl
theorem bld62 {st : PS} {l : List (Nat × Operand)} {K : PV → Prop} : buildK Try.prog st 62 l K = bindO (evParts st l) fun ps => (ps.all fun e => match e.2 with | .tup _ => false | _ => true) = true ∧ bindO (fillP (fun i => [(0, 1)][i]?) [.val (.int .i64 0)] ps) fun cs => K (.agg cs) :=
  buildC Try.underlying62 z62 (by kernel_rfl) rfl rfl
-- 63: struct { draw.told; l []int }
theorem rda63 {cs : List PV} {off : Nat} : readCells Try.prog 63 cs off = if off + 2 ≤ cs.length then some (.agg ((cs.drop off).take 2)) else none := rd_agg ag63 sz63
theorem alc63 {dr : Bool} {st : PS} {id tk : Nat} {K : PS → Prop} {d : Option Tmp} {ty : TypeId} {pos : String} {af : Array Edge} {g : Option (Nat × Bool)} : stepN dr Try.prog ⟨d, .alloc 63, ty, pos, af, g⟩ st id tk K = K (PS.put { st with heap := (id, .box 63 [.val (.int .i64 0), .val (.slice none 0 0)]) :: st.heap } d (.ptr id 0)) := s_allocC z63 rfl rfl
theorem mki63 {dr : Bool} {st : PS} {id tk : Nat} {K : PS → Prop} {d : Option Tmp} {ty : TypeId} {pos : String} {af : Array Edge} {g : Option (Nat × Bool)} {x : Operand} : stepN dr Try.prog ⟨d, .makeInterface 63 x, ty, pos, af, g⟩ st id tk K = bindO (st.ev x) fun p => K (st.put d (.iface 63 p)) := s_makeIface Try.underlying63 rfl
theorem fa63_0 {st : PS} {x : Operand} {K : PV → Prop} : fieldAddrK Try.prog st 63 x 0 K = bindO (st.ev x) (fldP 0 K) :=
  fld_ (P := Try.prog) (st := st) (x := x) (K := K) (f := 0) Try.underlying63 rfl sz62 (by decide)
theorem fi63_0 {st : PS} {x : Operand} {K : PV → Prop} : fieldK Try.prog st 63 x 0 K = bindO (st.ev x) (fieldP Try.prog 62 0 K) :=
  field_ (P := Try.prog) (st := st) (x := x) (K := K) (f := 0) Try.underlying63 rfl
theorem fa63_1 {st : PS} {x : Operand} {K : PV → Prop} : fieldAddrK Try.prog st 63 x 1 K = bindO (st.ev x) (fldP 1 K) :=
  fld_ (P := Try.prog) (st := st) (x := x) (K := K) (f := 1) Try.underlying63 rfl sz22 (by decide)
theorem fi63_1 {st : PS} {x : Operand} {K : PV → Prop} : fieldK Try.prog st 63 x 1 K = bindO (st.ev x) (fieldP Try.prog 22 1 K) :=
  field_ (P := Try.prog) (st := st) (x := x) (K := K) (f := 1) Try.underlying63 rfl
theorem bld63 {st : PS} {l : List (Nat × Operand)} {K : PV → Prop} : buildK Try.prog st 63 l K = bindO (evParts st l) fun ps => (ps.all fun e => match e.2 with | .tup _ => false | _ => true) = true ∧ bindO (fillP (fun i => [(0, 1), (1, 1)][i]?) [.val (.int .i64 0), .val (.slice none 0 0)] ps) fun cs => K (.agg cs) :=
  buildC Try.underlying63 z63 (by kernel_rfl) rfl rfl
-- 64: draw.script
theorem rda64 {cs : List PV} {off : Nat} : readCells Try.prog 64 cs off = if off + 2 ≤ cs.length then some (.agg ((cs.drop off).take 2)) else none := rd_agg ag64 sz64
theorem alc64 {dr : Bool} {st : PS} {id tk : Nat} {K : PS → Prop} {d : Option Tmp} {ty : TypeId} {pos : String} {af : Array Edge} {g : Option (Nat × Bool)} : stepN dr Try.prog ⟨d, .alloc 64, ty, pos, af, g⟩ st id tk K = K (PS.put { st with heap := (id, .box 64 [.val (.int .i64 0), .val (.slice none 0 0)]) :: st.heap } d (.ptr id 0)) := s_allocC z64 rfl rfl
theorem mki64 {dr : Bool} {st : PS} {id tk : Nat} {K : PS → Prop} {d : Option Tmp} {ty : TypeId} {pos : String} {af : Array Edge} {g : Option (Nat × Bool)} {x : Operand} : stepN dr Try.prog ⟨d, .makeInterface 64 x, ty, pos, af, g⟩ st id tk K = bindO (st.ev x) fun p => K (st.put d (.iface 64 p)) := s_makeIface Try.underlying64 rfl
theorem fa64_0 {st : PS} {x : Operand} {K : PV → Prop} : fieldAddrK Try.prog st 64 x 0 K = bindO (st.ev x) (fldP 0 K) :=
  fld_ (P := Try.prog) (st := st) (x := x) (K := K) (f := 0) Try.underlying64 rfl sz62 (by decide)
theorem fi64_0 {st : PS} {x : Operand} {K : PV → Prop} : fieldK Try.prog st 64 x 0 K = bindO (st.ev x) (fieldP Try.prog 62 0 K) :=
  field_ (P := Try.prog) (st := st) (x := x) (K := K) (f := 0) Try.underlying64 rfl
theorem fa64_1 {st : PS} {x : Operand} {K : PV → Prop} : fieldAddrK Try.prog st 64 x 1 K = bindO (st.ev x) (fldP 1 K) :=
  fld_ (P := Try.prog) (st := st) (x := x) (K := K) (f := 1) Try.underlying64 rfl sz22 (by decide)
theorem fi64_1 {st : PS} {x : Operand} {K : PV → Prop} : fieldK Try.prog st 64 x 1 K = bindO (st.ev x) (fieldP Try.prog 22 1 K) :=
  field_ (P := Try.prog) (st := st) (x := x) (K := K) (f := 1) Try.underlying64 rfl
theorem bld64 {st : PS} {l : List (Nat × Operand)} {K : PV → Prop} : buildK Try.prog st 64 l K = bindO (evParts st l) fun ps => (ps.all fun e => match e.2 with | .tup _ => false | _ => true) = true ∧ bindO (fillP (fun i => [(0, 1), (1, 1)][i]?) [.val (.int .i64 0), .val (.slice none 0 0)] ps) fun cs => K (.agg cs) :=
  buildC Try.underlying64 z64 (by kernel_rfl) rfl rfl
-- 65: *draw.mixer
theorem rdo65 {cs : List PV} {off : Nat} : readCells Try.prog 65 cs off = cs[off]? := rd_one ag65
theorem alc65 {dr : Bool} {st : PS} {id tk : Nat} {K : PS → Prop} {d : Option Tmp} {ty : TypeId} {pos : String} {af : Array Edge} {g : Option (Nat × Bool)} : stepN dr Try.prog ⟨d, .alloc 65, ty, pos, af, g⟩ st id tk K = K (PS.put { st with heap := (id, .box 65 [.val (.pointer none)]) :: st.heap } d (.ptr id 0)) := s_allocC z65 rfl rfl
theorem mki65 {dr : Bool} {st : PS} {id tk : Nat} {K : PS → Prop} {d : Option Tmp} {ty : TypeId} {pos : String} {af : Array Edge} {g : Option (Nat × Bool)} {x : Operand} : stepN dr Try.prog ⟨d, .makeInterface 65 x, ty, pos, af, g⟩ st id tk K = bindO (st.ev x) fun p => K (st.put d (.iface 65 p)) := s_makeIface Try.underlying65 rfl
-- 66: struct { draw.told; state uint64 }
theorem rda66 {cs : List PV} {off : Nat} : readCells Try.prog 66 cs off = if off + 2 ≤ cs.length then some (.agg ((cs.drop off).take 2)) else none := rd_agg ag66 sz66
theorem alc66 {dr : Bool} {st : PS} {id tk : Nat} {K : PS → Prop} {d : Option Tmp} {ty : TypeId} {pos : String} {af : Array Edge} {g : Option (Nat × Bool)} : stepN dr Try.prog ⟨d, .alloc 66, ty, pos, af, g⟩ st id tk K = K (PS.put { st with heap := (id, .box 66 [.val (.int .i64 0), .val (.int .u64 0)]) :: st.heap } d (.ptr id 0)) := s_allocC z66 rfl rfl
theorem mki66 {dr : Bool} {st : PS} {id tk : Nat} {K : PS → Prop} {d : Option Tmp} {ty : TypeId} {pos : String} {af : Array Edge} {g : Option (Nat × Bool)} {x : Operand} : stepN dr Try.prog ⟨d, .makeInterface 66 x, ty, pos, af, g⟩ st id tk K = bindO (st.ev x) fun p => K (st.put d (.iface 66 p)) := s_makeIface Try.underlying66 rfl
theorem fa66_0 {st : PS} {x : Operand} {K : PV → Prop} : fieldAddrK Try.prog st 66 x 0 K = bindO (st.ev x) (fldP 0 K) :=
  fld_ (P := Try.prog) (st := st) (x := x) (K := K) (f := 0) Try.underlying66 rfl sz62 (by decide)
theorem fi66_0 {st : PS} {x : Operand} {K : PV → Prop} : fieldK Try.prog st 66 x 0 K = bindO (st.ev x) (fieldP Try.prog 62 0 K) :=
  field_ (P := Try.prog) (st := st) (x := x) (K := K) (f := 0) Try.underlying66 rfl
theorem fa66_1 {st : PS} {x : Operand} {K : PV → Prop} : fieldAddrK Try.prog st 66 x 1 K = bindO (st.ev x) (fldP 1 K) :=
  fld_ (P := Try.prog) (st := st) (x := x) (K := K) (f := 1) Try.underlying66 rfl sz31 (by decide)
theorem fi66_1 {st : PS} {x : Operand} {K : PV → Prop} : fieldK Try.prog st 66 x 1 K = bindO (st.ev x) (fieldP Try.prog 31 1 K) :=
  field_ (P := Try.prog) (st := st) (x := x) (K := K) (f := 1) Try.underlying66 rfl
theorem bld66 {st : PS} {l : List (Nat × Operand)} {K : PV → Prop} : buildK Try.prog st 66 l K = bindO (evParts st l) fun ps => (ps.all fun e => match e.2 with | .tup _ => false | _ => true) = true ∧ bindO (fillP (fun i => [(0, 1), (1, 1)][i]?) [.val (.int .i64 0), .val (.int .u64 0)] ps) fun cs => K (.agg cs) :=
  buildC Try.underlying66 z66 (by kernel_rfl) rfl rfl
-- 67: draw.mixer
theorem rda67 {cs : List PV} {off : Nat} : readCells Try.prog 67 cs off = if off + 2 ≤ cs.length then some (.agg ((cs.drop off).take 2)) else none := rd_agg ag67 sz67
theorem alc67 {dr : Bool} {st : PS} {id tk : Nat} {K : PS → Prop} {d : Option Tmp} {ty : TypeId} {pos : String} {af : Array Edge} {g : Option (Nat × Bool)} : stepN dr Try.prog ⟨d, .alloc 67, ty, pos, af, g⟩ st id tk K = K (PS.put { st with heap := (id, .box 67 [.val (.int .i64 0), .val (.int .u64 0)]) :: st.heap } d (.ptr id 0)) := s_allocC z67 rfl rfl
theorem mki67 {dr : Bool} {st : PS} {id tk : Nat} {K : PS → Prop} {d : Option Tmp} {ty : TypeId} {pos : String} {af : Array Edge} {g : Option (Nat × Bool)} {x : Operand} : stepN dr Try.prog ⟨d, .makeInterface 67 x, ty, pos, af, g⟩ st id tk K = bindO (st.ev x) fun p => K (st.put d (.iface 67 p)) := s_makeIface Try.underlying67 rfl
theorem fa67_0 {st : PS} {x : Operand} {K : PV → Prop} : fieldAddrK Try.prog st 67 x 0 K = bindO (st.ev x) (fldP 0 K) :=
  fld_ (P := Try.prog) (st := st) (x := x) (K := K) (f := 0) Try.underlying67 rfl sz62 (by decide)
theorem fi67_0 {st : PS} {x : Operand} {K : PV → Prop} : fieldK Try.prog st 67 x 0 K = bindO (st.ev x) (fieldP Try.prog 62 0 K) :=
  field_ (P := Try.prog) (st := st) (x := x) (K := K) (f := 0) Try.underlying67 rfl
theorem fa67_1 {st : PS} {x : Operand} {K : PV → Prop} : fieldAddrK Try.prog st 67 x 1 K = bindO (st.ev x) (fldP 1 K) :=
  fld_ (P := Try.prog) (st := st) (x := x) (K := K) (f := 1) Try.underlying67 rfl sz31 (by decide)
theorem fi67_1 {st : PS} {x : Operand} {K : PV → Prop} : fieldK Try.prog st 67 x 1 K = bindO (st.ev x) (fieldP Try.prog 31 1 K) :=
  field_ (P := Try.prog) (st := st) (x := x) (K := K) (f := 1) Try.underlying67 rfl
theorem bld67 {st : PS} {l : List (Nat × Operand)} {K : PV → Prop} : buildK Try.prog st 67 l K = bindO (evParts st l) fun ps => (ps.all fun e => match e.2 with | .tup _ => false | _ => true) = true ∧ bindO (fillP (fun i => [(0, 1), (1, 1)][i]?) [.val (.int .i64 0), .val (.int .u64 0)] ps) fun cs => K (.agg cs) :=
  buildC Try.underlying67 z67 (by kernel_rfl) rfl rfl
-- 68: func([]int, func(int) bool) int
theorem rdo68 {cs : List PV} {off : Nat} : readCells Try.prog 68 cs off = cs[off]? := rd_one ag68
-- 69: func() string
theorem rdo69 {cs : List PV} {off : Nat} : readCells Try.prog 69 cs off = cs[off]? := rd_one ag69
-- 72: [0]*runtime.PanicNilError
-- 73: struct { _ [0]*runtime.PanicNilError }
theorem mki73 {dr : Bool} {st : PS} {id tk : Nat} {K : PS → Prop} {d : Option Tmp} {ty : TypeId} {pos : String} {af : Array Edge} {g : Option (Nat × Bool)} {x : Operand} : stepN dr Try.prog ⟨d, .makeInterface 73 x, ty, pos, af, g⟩ st id tk K = bindO (st.ev x) fun p => K (st.put d (.iface 73 p)) := s_makeIface Try.underlying73 rfl
-- 75: uint32
theorem rdo75 {cs : List PV} {off : Nat} : readCells Try.prog 75 cs off = cs[off]? := rd_one ag75
theorem alc75 {dr : Bool} {st : PS} {id tk : Nat} {K : PS → Prop} {d : Option Tmp} {ty : TypeId} {pos : String} {af : Array Edge} {g : Option (Nat × Bool)} : stepN dr Try.prog ⟨d, .alloc 75, ty, pos, af, g⟩ st id tk K = K (PS.put { st with heap := (id, .box 75 [.val (.int .u32 0)]) :: st.heap } d (.ptr id 0)) := s_allocC z75 rfl rfl
theorem mki75 {dr : Bool} {st : PS} {id tk : Nat} {K : PS → Prop} {d : Option Tmp} {ty : TypeId} {pos : String} {af : Array Edge} {g : Option (Nat × Bool)} {x : Operand} : stepN dr Try.prog ⟨d, .makeInterface 75 x, ty, pos, af, g⟩ st id tk K = bindO (st.ev x) fun p => K (st.put d (.iface 75 p)) := s_makeIface Try.underlying75 rfl
-- 78: func(unsafe.Pointer, unsafe.Pointer) bool
theorem rdo78 {cs : List PV} {off : Nat} : readCells Try.prog 78 cs off = cs[off]? := rd_one ag78
-- 79: *uint8
theorem rdo79 {cs : List PV} {off : Nat} : readCells Try.prog 79 cs off = cs[off]? := rd_one ag79
theorem alc79 {dr : Bool} {st : PS} {id tk : Nat} {K : PS → Prop} {d : Option Tmp} {ty : TypeId} {pos : String} {af : Array Edge} {g : Option (Nat × Bool)} : stepN dr Try.prog ⟨d, .alloc 79, ty, pos, af, g⟩ st id tk K = K (PS.put { st with heap := (id, .box 79 [.val (.pointer none)]) :: st.heap } d (.ptr id 0)) := s_allocC z79 rfl rfl
theorem mki79 {dr : Bool} {st : PS} {id tk : Nat} {K : PS → Prop} {d : Option Tmp} {ty : TypeId} {pos : String} {af : Array Edge} {g : Option (Nat × Bool)} {x : Operand} : stepN dr Try.prog ⟨d, .makeInterface 79 x, ty, pos, af, g⟩ st id tk K = bindO (st.ev x) fun p => K (st.put d (.iface 79 p)) := s_makeIface Try.underlying79 rfl
-- 84: *draw.told
theorem rdo84 {cs : List PV} {off : Nat} : readCells Try.prog 84 cs off = cs[off]? := rd_one ag84
theorem alc84 {dr : Bool} {st : PS} {id tk : Nat} {K : PS → Prop} {d : Option Tmp} {ty : TypeId} {pos : String} {af : Array Edge} {g : Option (Nat × Bool)} : stepN dr Try.prog ⟨d, .alloc 84, ty, pos, af, g⟩ st id tk K = K (PS.put { st with heap := (id, .box 84 [.val (.pointer none)]) :: st.heap } d (.ptr id 0)) := s_allocC z84 rfl rfl
theorem mki84 {dr : Bool} {st : PS} {id tk : Nat} {K : PS → Prop} {d : Option Tmp} {ty : TypeId} {pos : String} {af : Array Edge} {g : Option (Nat × Bool)} {x : Operand} : stepN dr Try.prog ⟨d, .makeInterface 84 x, ty, pos, af, g⟩ st id tk K = bindO (st.ev x) fun p => K (st.put d (.iface 84 p)) := s_makeIface Try.underlying84 rfl
-- 85: uint
theorem rdo85 {cs : List PV} {off : Nat} : readCells Try.prog 85 cs off = cs[off]? := rd_one ag85
theorem alc85 {dr : Bool} {st : PS} {id tk : Nat} {K : PS → Prop} {d : Option Tmp} {ty : TypeId} {pos : String} {af : Array Edge} {g : Option (Nat × Bool)} : stepN dr Try.prog ⟨d, .alloc 85, ty, pos, af, g⟩ st id tk K = K (PS.put { st with heap := (id, .box 85 [.val (.int .u64 0)]) :: st.heap } d (.ptr id 0)) := s_allocC z85 rfl rfl
theorem mki85 {dr : Bool} {st : PS} {id tk : Nat} {K : PS → Prop} {d : Option Tmp} {ty : TypeId} {pos : String} {af : Array Edge} {g : Option (Nat × Bool)} {x : Operand} : stepN dr Try.prog ⟨d, .makeInterface 85 x, ty, pos, af, g⟩ st id tk K = bindO (st.ev x) fun p => K (st.put d (.iface 85 p)) := s_makeIface Try.underlying85 rfl
attribute [go_sem ↓] alc2 mki2 alc3 mki3 alc4 alc5 mki5 alc9 mki9 rng9 lns9 ixs9 sls9 alc12 mki12 alc13 mki13 fa13_0 fi13_0 fa13_1 fi13_1 bld13 alc20 alc21 mki21 alc22 lns22 ixs22 sls22 app22 bs22 mks22 alc29 mki29 fa29_0 fi29_0 fa29_1 fi29_1 fa29_2 fi29_2 bld29 alc30 mki30 fa30_0 fi30_0 fa30_1 fi30_1 fa30_2 fi30_2 bld30 alc31 mki31 alc32 mki32 fa32_0 fi32_0 fa32_1 fi32_1 fa32_2 fi32_2 fa32_3 fi32_3 bld32 alc33 mki33 fa33_0 fi33_0 fa33_1 fi33_1 fa33_2 fi33_2 fa33_3 fi33_3 bld33 alc34 alc35 alc43 lns43 ixs43 sls43 aps43 cvr43 app43 bs43 mks43 alc44 mki44 alc49 lns49 ixs49 sls49 app49 bs49 mks49 alc59 mki59 alc61 mki61 fa61_0 fi61_0 bld61 alc62 mki62 fa62_0 fi62_0 bld62 alc63 mki63 fa63_0 fi63_0 fa63_1 fi63_1 bld63 alc64 mki64 fa64_0 fi64_0 fa64_1 fi64_1 bld64 alc65 mki65 alc66 mki66 fa66_0 fi66_0 fa66_1 fi66_1 bld66 alc67 mki67 fa67_0 fi67_0 fa67_1 fi67_1 bld67 mki73 alc75 mki75 alc79 mki79 alc84 mki84 alc85 mki85
attribute [go_sem] rdo1 sz1 rdo2 sz2 Try.underlying2 rdo3 sz3 Try.underlying3 rdo4 sz4 Try.underlying4 rdo5 sz5 Try.underlying5 rdo9 sz9 Try.underlying9 rdo12 sz12 Try.underlying12 rda13 sz13 rdo20 sz20 ifx20 rdo21 sz21 Try.underlying21 rdo22 sz22 rdo23 sz23 rdo24 sz24 rdo25 sz25 rdo26 sz26 rdo27 sz27 rdo28 sz28 rda29 sz29 rda30 sz30 rdo31 sz31 Try.underlying31 rda32 sz32 rda33 sz33 rdo34 sz34 ifx34 rdo35 sz35 ifx35 rdo37 sz37 rdo39 sz39 rdo40 sz40 rdo41 sz41 rdo42 sz42 rdo43 sz43 isb43 Try.underlying43 rdo44 sz44 Try.underlying44 rdo46 sz46 rdo47 sz47 rdo48 sz48 rdo49 sz49 rdo51 sz51 rdo52 sz52 rdo53 sz53 rdo54 sz54 rdo55 sz55 rdo56 sz56 rdo57 sz57 rdo58 sz58 rdo59 sz59 rdo60 sz60 rda61 sz61 rda62 sz62 rda63 sz63 rda64 sz64 rdo65 sz65 rda66 sz66 rda67 sz67 rdo68 sz68 rdo69 sz69 sz72 sz73 rdo75 sz75 Try.underlying75 rdo78 sz78 rdo79 sz79 rdo84 sz84 rdo85 sz85 Try.underlying85
end Go.Proofs.Ytmenmfibpbpblaa
