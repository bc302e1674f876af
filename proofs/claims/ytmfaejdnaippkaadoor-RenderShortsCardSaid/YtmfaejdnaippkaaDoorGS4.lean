import Derived.Test.YtmfaejdnaippkaaDoorProg
import Derived.Test.YtmfaejdnaippkaaDoorGS3
/-
  The types of this seat's program: sizes, zero values, the rules by which their operations are rewritten.
-/
namespace Go.Proofs.YtmfaejdnaippkaaDoor
open Go Go.Pw
set_option linter.unusedVariables false
variable {dr : Bool} {st : PS} {id tk : Nat} {d : Option Tmp} {ty : TypeId} {pos : String} {af : Array Edge} {g : Option (Nat × Bool)} {x y : Operand}
set_option maxRecDepth 4000
theorem ag1 : aggT Tryd.prog 1 = some false := by kernel_rfl
theorem sz1 : sizeOf? Tryd.prog 1 = some 1 := by kernel_rfl
theorem z1 : zeroOf? Tryd.prog 1 = some (.nilFunc) := by kernel_rfl
theorem ag2 : aggT Tryd.prog 2 = some false := by kernel_rfl
theorem sz2 : sizeOf? Tryd.prog 2 = some 1 := by kernel_rfl
theorem z2 : zeroOf? Tryd.prog 2 = some (.int .i64 0) := by kernel_rfl
theorem by2 : bytesOf? Tryd.prog 2 = some 8 := by kernel_rfl
theorem ag3 : aggT Tryd.prog 3 = some false := by kernel_rfl
theorem sz3 : sizeOf? Tryd.prog 3 = some 1 := by kernel_rfl
theorem z3 : zeroOf? Tryd.prog 3 = some (.int .i64 0) := by kernel_rfl
theorem by3 : bytesOf? Tryd.prog 3 = some 8 := by kernel_rfl
theorem ag4 : aggT Tryd.prog 4 = some false := by kernel_rfl
theorem sz4 : sizeOf? Tryd.prog 4 = some 1 := by kernel_rfl
theorem z4 : zeroOf? Tryd.prog 4 = some (.bool false) := by kernel_rfl
theorem by4 : bytesOf? Tryd.prog 4 = some 1 := by kernel_rfl
theorem ag5 : aggT Tryd.prog 5 = some false := by kernel_rfl
theorem sz5 : sizeOf? Tryd.prog 5 = some 1 := by kernel_rfl
theorem z5 : zeroOf? Tryd.prog 5 = some (.int .u8 0) := by kernel_rfl
theorem by5 : bytesOf? Tryd.prog 5 = some 1 := by kernel_rfl
theorem ag9 : aggT Tryd.prog 9 = some false := by kernel_rfl
theorem sz9 : sizeOf? Tryd.prog 9 = some 1 := by kernel_rfl
theorem z9 : zeroOf? Tryd.prog 9 = some (.string ByteArray.empty) := by kernel_rfl
theorem by9 : bytesOf? Tryd.prog 9 = some 16 := by kernel_rfl
theorem ag20 : aggT Tryd.prog 20 = some false := by kernel_rfl
theorem sz20 : sizeOf? Tryd.prog 20 = some 1 := by kernel_rfl
theorem z20 : zeroOf? Tryd.prog 20 = some (.nilIface) := by kernel_rfl
theorem ag21 : aggT Tryd.prog 21 = some false := by kernel_rfl
theorem sz21 : sizeOf? Tryd.prog 21 = some 1 := by kernel_rfl
theorem z21 : zeroOf? Tryd.prog 21 = some (.int .i32 0) := by kernel_rfl
theorem by21 : bytesOf? Tryd.prog 21 = some 4 := by kernel_rfl
theorem ag23 : aggT Tryd.prog 23 = some false := by kernel_rfl
theorem sz23 : sizeOf? Tryd.prog 23 = some 1 := by kernel_rfl
theorem z23 : zeroOf? Tryd.prog 23 = some (.nilFunc) := by kernel_rfl
theorem ag26 : aggT Tryd.prog 26 = some false := by kernel_rfl
theorem sz26 : sizeOf? Tryd.prog 26 = some 1 := by kernel_rfl
theorem z26 : zeroOf? Tryd.prog 26 = some (.slice none 0 0) := by kernel_rfl
theorem by26 : bytesOf? Tryd.prog 26 = some 24 := by kernel_rfl
theorem ag27 : aggT Tryd.prog 27 = some false := by kernel_rfl
theorem sz27 : sizeOf? Tryd.prog 27 = some 1 := by kernel_rfl
theorem z27 : zeroOf? Tryd.prog 27 = some (.slice none 0 0) := by kernel_rfl
theorem by27 : bytesOf? Tryd.prog 27 = some 24 := by kernel_rfl
theorem ag29 : aggT Tryd.prog 29 = some true := by kernel_rfl
theorem sz29 : sizeOf? Tryd.prog 29 = some 6 := by kernel_rfl
theorem z29 : zeroOf? Tryd.prog 29 = some (.agg #[.int .i64 0, .bool false, .int .i64 0, .string ByteArray.empty, .slice none 0 0, .slice none 0 0]) := by kernel_rfl
theorem by29 : bytesOf? Tryd.prog 29 = some 88 := by kernel_rfl
theorem ag32 : aggT Tryd.prog 32 = some false := by kernel_rfl
theorem sz32 : sizeOf? Tryd.prog 32 = some 1 := by kernel_rfl
theorem z32 : zeroOf? Tryd.prog 32 = some (.slice none 0 0) := by kernel_rfl
theorem by32 : bytesOf? Tryd.prog 32 = some 24 := by kernel_rfl
theorem ag33 : aggT Tryd.prog 33 = some false := by kernel_rfl
theorem sz33 : sizeOf? Tryd.prog 33 = some 1 := by kernel_rfl
theorem z33 : zeroOf? Tryd.prog 33 = some (.slice none 0 0) := by kernel_rfl
theorem by33 : bytesOf? Tryd.prog 33 = some 24 := by kernel_rfl
theorem ag35 : aggT Tryd.prog 35 = some true := by kernel_rfl
theorem sz35 : sizeOf? Tryd.prog 35 = some 6 := by kernel_rfl
theorem z35 : zeroOf? Tryd.prog 35 = some (.agg #[.int .i64 0, .bool false, .int .i64 0, .string ByteArray.empty, .slice none 0 0, .slice none 0 0]) := by kernel_rfl
theorem by35 : bytesOf? Tryd.prog 35 = some 88 := by kernel_rfl
theorem z37 : zeroOf? Tryd.prog 37 = some (.nilFunc) := by kernel_rfl
theorem ag41 : aggT Tryd.prog 41 = some false := by kernel_rfl
theorem sz41 : sizeOf? Tryd.prog 41 = some 1 := by kernel_rfl
theorem z41 : zeroOf? Tryd.prog 41 = some (.int .i64 0) := by kernel_rfl
theorem by41 : bytesOf? Tryd.prog 41 = some 8 := by kernel_rfl
theorem ag46 : aggT Tryd.prog 46 = some false := by kernel_rfl
theorem sz46 : sizeOf? Tryd.prog 46 = some 1 := by kernel_rfl
theorem z46 : zeroOf? Tryd.prog 46 = some (.slice none 0 0) := by kernel_rfl
theorem by46 : bytesOf? Tryd.prog 46 = some 24 := by kernel_rfl
theorem ag49 : aggT Tryd.prog 49 = some false := by kernel_rfl
theorem sz49 : sizeOf? Tryd.prog 49 = some 1 := by kernel_rfl
theorem z49 : zeroOf? Tryd.prog 49 = some (.pointer none) := by kernel_rfl
theorem by49 : bytesOf? Tryd.prog 49 = some 8 := by kernel_rfl
theorem ag50 : aggT Tryd.prog 50 = some false := by kernel_rfl
theorem sz50 : sizeOf? Tryd.prog 50 = some 1 := by kernel_rfl
theorem z50 : zeroOf? Tryd.prog 50 = some (.slice none 0 0) := by kernel_rfl
theorem by50 : bytesOf? Tryd.prog 50 = some 24 := by kernel_rfl
theorem z51 : zeroOf? Tryd.prog 51 = some (.agg #[.pointer none, .slice none 0 0]) := by kernel_rfl
theorem ag52 : aggT Tryd.prog 52 = some true := by kernel_rfl
theorem sz52 : sizeOf? Tryd.prog 52 = some 2 := by kernel_rfl
theorem z52 : zeroOf? Tryd.prog 52 = some (.agg #[.pointer none, .slice none 0 0]) := by kernel_rfl
theorem by52 : bytesOf? Tryd.prog 52 = some 32 := by kernel_rfl
theorem ag53 : aggT Tryd.prog 53 = some false := by kernel_rfl
theorem sz53 : sizeOf? Tryd.prog 53 = some 1 := by kernel_rfl
theorem z53 : zeroOf? Tryd.prog 53 = some (.nilFunc) := by kernel_rfl
theorem ag55 : aggT Tryd.prog 55 = some true := by kernel_rfl
theorem sz55 : sizeOf? Tryd.prog 55 = some 5 := by kernel_rfl
theorem z55 : zeroOf? Tryd.prog 55 = some (.agg #[.pointer none, .slice none 0 0, .string ByteArray.empty, .nilFunc, .int .i64 0]) := by kernel_rfl
theorem by55 : bytesOf? Tryd.prog 55 = some 64 := by kernel_rfl
theorem ag58 : aggT Tryd.prog 58 = some false := by kernel_rfl
theorem sz58 : sizeOf? Tryd.prog 58 = some 1 := by kernel_rfl
theorem z58 : zeroOf? Tryd.prog 58 = some (.pointer none) := by kernel_rfl
theorem by58 : bytesOf? Tryd.prog 58 = some 8 := by kernel_rfl
theorem ag59 : aggT Tryd.prog 59 = some false := by kernel_rfl
theorem sz59 : sizeOf? Tryd.prog 59 = some 1 := by kernel_rfl
theorem z59 : zeroOf? Tryd.prog 59 = some (.nilFunc) := by kernel_rfl
theorem ag62 : aggT Tryd.prog 62 = some true := by kernel_rfl
theorem sz62 : sizeOf? Tryd.prog 62 = some 5 := by kernel_rfl
theorem z62 : zeroOf? Tryd.prog 62 = some (.agg #[.int .u8 0, .int .i64 0, .string ByteArray.empty, .slice none 0 0, .slice none 0 0]) := by kernel_rfl
theorem by62 : bytesOf? Tryd.prog 62 = some 80 := by kernel_rfl
theorem ag78 : aggT Tryd.prog 78 = some false := by kernel_rfl
theorem sz78 : sizeOf? Tryd.prog 78 = some 1 := by kernel_rfl
theorem z78 : zeroOf? Tryd.prog 78 = some (.nilIface) := by kernel_rfl
theorem by78 : bytesOf? Tryd.prog 78 = some 16 := by kernel_rfl
theorem ag83 : aggT Tryd.prog 83 = some false := by kernel_rfl
theorem sz83 : sizeOf? Tryd.prog 83 = some 1 := by kernel_rfl
theorem z83 : zeroOf? Tryd.prog 83 = some (.pointer none) := by kernel_rfl
theorem by83 : bytesOf? Tryd.prog 83 = some 8 := by kernel_rfl
theorem ag91 : aggT Tryd.prog 91 = some false := by kernel_rfl
theorem sz91 : sizeOf? Tryd.prog 91 = some 1 := by kernel_rfl
theorem z91 : zeroOf? Tryd.prog 91 = some (.int .u64 0) := by kernel_rfl
theorem by91 : bytesOf? Tryd.prog 91 = some 8 := by kernel_rfl
theorem ag96 : aggT Tryd.prog 96 = some true := by kernel_rfl
theorem sz96 : sizeOf? Tryd.prog 96 = some 5 := by kernel_rfl
theorem z96 : zeroOf? Tryd.prog 96 = some (.agg #[.int .i64 0, .int .i64 0, .int .i64 0, .int .i64 0, .int .i64 0]) := by kernel_rfl
theorem by96 : bytesOf? Tryd.prog 96 = some 40 := by kernel_rfl
theorem ag101 : aggT Tryd.prog 101 = some true := by kernel_rfl
theorem sz101 : sizeOf? Tryd.prog 101 = some 2 := by kernel_rfl
theorem z101 : zeroOf? Tryd.prog 101 = some (.agg #[.bool false, .slice none 0 0]) := by kernel_rfl
theorem by101 : bytesOf? Tryd.prog 101 = some 32 := by kernel_rfl
theorem ag110 : aggT Tryd.prog 110 = some true := by kernel_rfl
theorem sz110 : sizeOf? Tryd.prog 110 = some 24 := by kernel_rfl
theorem z110 : zeroOf? Tryd.prog 110 = some (.agg #[.int .u8 0, .int .u8 0, .int .u8 0, .int .u8 0, .int .u8 0, .int .u8 0, .int .u8 0, .int .u8 0, .int .u8 0, .int .u8 0, .int .u8 0, .int .u8 0, .int .u8 0, .int .u8 0, .int .u8 0, .int .u8 0, .int .u8 0, .int .u8 0, .int .u8 0, .int .u8 0, .int .u8 0, .int .u8 0, .int .u8 0, .int .u8 0]) := by kernel_rfl
theorem by110 : bytesOf? Tryd.prog 110 = some 24 := by kernel_rfl
theorem ag111 : aggT Tryd.prog 111 = some false := by kernel_rfl
theorem sz111 : sizeOf? Tryd.prog 111 = some 1 := by kernel_rfl
theorem z111 : zeroOf? Tryd.prog 111 = some (.int .u64 0) := by kernel_rfl
theorem by111 : bytesOf? Tryd.prog 111 = some 8 := by kernel_rfl
theorem ag118 : aggT Tryd.prog 118 = some true := by kernel_rfl
theorem sz118 : sizeOf? Tryd.prog 118 = some 20 := by kernel_rfl
theorem z118 : zeroOf? Tryd.prog 118 = some (.agg #[.int .u64 0, .int .u64 0, .int .u64 0, .int .u64 0, .int .u64 0, .int .u64 0, .int .u64 0, .int .u64 0, .int .u64 0, .int .u64 0, .int .u64 0, .int .u64 0, .int .u64 0, .int .u64 0, .int .u64 0, .int .u64 0, .int .u64 0, .int .u64 0, .int .u64 0, .int .u64 0]) := by kernel_rfl
theorem by118 : bytesOf? Tryd.prog 118 = some 160 := by kernel_rfl
theorem ag119 : aggT Tryd.prog 119 = some false := by kernel_rfl
theorem sz119 : sizeOf? Tryd.prog 119 = some 1 := by kernel_rfl
theorem z119 : zeroOf? Tryd.prog 119 = some (.int .u32 0) := by kernel_rfl
theorem by119 : bytesOf? Tryd.prog 119 = some 4 := by kernel_rfl
theorem ag123 : aggT Tryd.prog 123 = some true := by kernel_rfl
theorem sz123 : sizeOf? Tryd.prog 123 = some 32 := by kernel_rfl
theorem z123 : zeroOf? Tryd.prog 123 = some (.agg #[.int .u8 0, .int .u8 0, .int .u8 0, .int .u8 0, .int .u8 0, .int .u8 0, .int .u8 0, .int .u8 0, .int .u8 0, .int .u8 0, .int .u8 0, .int .u8 0, .int .u8 0, .int .u8 0, .int .u8 0, .int .u8 0, .int .u8 0, .int .u8 0, .int .u8 0, .int .u8 0, .int .u8 0, .int .u8 0, .int .u8 0, .int .u8 0, .int .u8 0, .int .u8 0, .int .u8 0, .int .u8 0, .int .u8 0, .int .u8 0, .int .u8 0, .int .u8 0]) := by kernel_rfl
theorem by123 : bytesOf? Tryd.prog 123 = some 32 := by kernel_rfl
theorem ag124 : aggT Tryd.prog 124 = some true := by kernel_rfl
theorem sz124 : sizeOf? Tryd.prog 124 = some 64 := by kernel_rfl
theorem z124 : zeroOf? Tryd.prog 124 = some (.agg #[.int .u8 0, .int .u8 0, .int .u8 0, .int .u8 0, .int .u8 0, .int .u8 0, .int .u8 0, .int .u8 0, .int .u8 0, .int .u8 0, .int .u8 0, .int .u8 0, .int .u8 0, .int .u8 0, .int .u8 0, .int .u8 0, .int .u8 0, .int .u8 0, .int .u8 0, .int .u8 0, .int .u8 0, .int .u8 0, .int .u8 0, .int .u8 0, .int .u8 0, .int .u8 0, .int .u8 0, .int .u8 0, .int .u8 0, .int .u8 0, .int .u8 0, .int .u8 0, .int .u8 0, .int .u8 0, .int .u8 0, .int .u8 0, .int .u8 0, .int .u8 0, .int .u8 0, .int .u8 0, .int .u8 0, .int .u8 0, .int .u8 0, .int .u8 0, .int .u8 0, .int .u8 0, .int .u8 0, .int .u8 0, .int .u8 0, .int .u8 0, .int .u8 0, .int .u8 0, .int .u8 0, .int .u8 0, .int .u8 0, .int .u8 0, .int .u8 0, .int .u8 0, .int .u8 0, .int .u8 0, .int .u8 0, .int .u8 0, .int .u8 0, .int .u8 0]) := by kernel_rfl
theorem by124 : bytesOf? Tryd.prog 124 = some 64 := by kernel_rfl
-- 1: func()
theorem rdo1 {cs : List PV} {off : Nat} : readCells Tryd.prog 1 cs off = cs[off]? := rd_one ag1
-- 2: int64
theorem rdo2 {cs : List PV} {off : Nat} : readCells Tryd.prog 2 cs off = cs[off]? := rd_one ag2
theorem alc2 {K : PS → Prop} : stepN dr Tryd.prog ⟨d, .alloc 2, ty, pos, af, g⟩ st id tk K = K (PS.put { st with heap := (id, .box 2 [.val (.int .i64 0)]) :: st.heap } d (.ptr id 0)) := s_allocC z2 rfl rfl
theorem mki2 {K : PS → Prop} : stepN dr Tryd.prog ⟨d, .makeInterface 2 x, ty, pos, af, g⟩ st id tk K = bindO (st.ev x) fun p => K (st.put d (.iface 2 p)) := s_makeIface Tryd.underlying2 rfl
-- 3: int
theorem rdo3 {cs : List PV} {off : Nat} : readCells Tryd.prog 3 cs off = cs[off]? := rd_one ag3
theorem alc3 {K : PS → Prop} : stepN dr Tryd.prog ⟨d, .alloc 3, ty, pos, af, g⟩ st id tk K = K (PS.put { st with heap := (id, .box 3 [.val (.int .i64 0)]) :: st.heap } d (.ptr id 0)) := s_allocC z3 rfl rfl
theorem mki3 {K : PS → Prop} : stepN dr Tryd.prog ⟨d, .makeInterface 3 x, ty, pos, af, g⟩ st id tk K = bindO (st.ev x) fun p => K (st.put d (.iface 3 p)) := s_makeIface Tryd.underlying3 rfl
-- 4: bool
theorem rdo4 {cs : List PV} {off : Nat} : readCells Tryd.prog 4 cs off = cs[off]? := rd_one ag4
theorem alc4 {K : PS → Prop} : stepN dr Tryd.prog ⟨d, .alloc 4, ty, pos, af, g⟩ st id tk K = K (PS.put { st with heap := (id, .box 4 [.val (.bool false)]) :: st.heap } d (.ptr id 0)) := s_allocC z4 rfl rfl
-- 5: uint8
theorem rdo5 {cs : List PV} {off : Nat} : readCells Tryd.prog 5 cs off = cs[off]? := rd_one ag5
theorem alc5 {K : PS → Prop} : stepN dr Tryd.prog ⟨d, .alloc 5, ty, pos, af, g⟩ st id tk K = K (PS.put { st with heap := (id, .box 5 [.val (.int .u8 0)]) :: st.heap } d (.ptr id 0)) := s_allocC z5 rfl rfl
theorem mki5 {K : PS → Prop} : stepN dr Tryd.prog ⟨d, .makeInterface 5 x, ty, pos, af, g⟩ st id tk K = bindO (st.ev x) fun p => K (st.put d (.iface 5 p)) := s_makeIface Tryd.underlying5 rfl
-- 9: string
theorem rdo9 {cs : List PV} {off : Nat} : readCells Tryd.prog 9 cs off = cs[off]? := rd_one ag9
theorem alc9 {K : PS → Prop} : stepN dr Tryd.prog ⟨d, .alloc 9, ty, pos, af, g⟩ st id tk K = K (PS.put { st with heap := (id, .box 9 [.val (.string ByteArray.empty)]) :: st.heap } d (.ptr id 0)) := s_allocC z9 rfl rfl
theorem mki9 {K : PS → Prop} : stepN dr Tryd.prog ⟨d, .makeInterface 9 x, ty, pos, af, g⟩ st id tk K = bindO (st.ev x) fun p => K (st.put d (.iface 9 p)) := s_makeIface Tryd.underlying9 rfl
theorem rng9 {K : PS → Prop} : stepN dr Tryd.prog ⟨d, .range 9 x, ty, pos, af, g⟩ st id tk K = bindO (st.ev x) (rngP id d st K) := s_range Tryd.underlying9
theorem lns9 {K : PV → Prop} : lenK Tryd.prog st 9 x K = bindO (st.ev x) (lenS K) := len_string Tryd.underlying9
theorem ixs9 {K : PV → Prop} : indexK Tryd.prog st 9 x y K = bindO (st.ev x) fun p => bindO (st.ev y) fun q => intK q fun i => ixS i K p := ix_string Tryd.underlying9
theorem sls9 {lo hi : Option Operand} {K : PV → Prop} : sliceK Tryd.prog st 9 x lo hi K = bindO (st.ev x) (slcS st lo hi K) := slc_string Tryd.underlying9
-- 12: uintptr
-- 13: struct { msg string; addr uintptr }
-- 20: interface {}
theorem rdo20 {cs : List PV} {off : Nat} : readCells Tryd.prog 20 cs off = cs[off]? := rd_one ag20
theorem alc20 {K : PS → Prop} : stepN dr Tryd.prog ⟨d, .alloc 20, ty, pos, af, g⟩ st id tk K = K (PS.put { st with heap := (id, .box 20 [.val (.nilIface)]) :: st.heap } d (.ptr id 0)) := s_allocC z20 rfl rfl
theorem ifx20 : (∃ ms, Tryd.prog.underlying 20 = some (.interface ms)) = True := eq_true ⟨_, Tryd.underlying20⟩
-- 21: int32
theorem rdo21 {cs : List PV} {off : Nat} : readCells Tryd.prog 21 cs off = cs[off]? := rd_one ag21
theorem alc21 {K : PS → Prop} : stepN dr Tryd.prog ⟨d, .alloc 21, ty, pos, af, g⟩ st id tk K = K (PS.put { st with heap := (id, .box 21 [.val (.int .i32 0)]) :: st.heap } d (.ptr id 0)) := s_allocC z21 rfl rfl
theorem mki21 {K : PS → Prop} : stepN dr Tryd.prog ⟨d, .makeInterface 21 x, ty, pos, af, g⟩ st id tk K = bindO (st.ev x) fun p => K (st.put d (.iface 21 p)) := s_makeIface Tryd.underlying21 rfl
-- 22: func() bool
-- 23: func(string) bool
theorem rdo23 {cs : List PV} {off : Nat} : readCells Tryd.prog 23 cs off = cs[off]? := rd_one ag23
-- 24: func(string) string
-- 25: func(value.Value) string
-- 26: []value.Value
theorem rdo26 {cs : List PV} {off : Nat} : readCells Tryd.prog 26 cs off = cs[off]? := rd_one ag26
theorem alc26 {K : PS → Prop} : stepN dr Tryd.prog ⟨d, .alloc 26, ty, pos, af, g⟩ st id tk K = K (PS.put { st with heap := (id, .box 26 [.val (.slice none 0 0)]) :: st.heap } d (.ptr id 0)) := s_allocC z26 rfl rfl
theorem lns26 {K : PV → Prop} : lenK Tryd.prog st 26 x K = bindO (st.ev x) (lenP K) := len_slice Tryd.underlying26
theorem ixs26 {K : PV → Prop} : indexAddrK Tryd.prog st 26 x y K = bindO (st.ev x) fun p => bindO (st.ev y) fun q => intK q fun i => ixP 6 i K p := ix_slice Tryd.underlying26 sz29
theorem sls26 {lo hi : Option Operand} {K : PV → Prop} : sliceK Tryd.prog st 26 x lo hi K = bindO (st.ev x) (slcP 6 st lo hi K) := slc_slice Tryd.underlying26 sz29
theorem app26 {tk : Nat} {K : Delta → Prop} : appendK Tryd.prog st tk ⟨.builtin .append, #[x, y], #[26, 26]⟩ K = bindO (st.ev x) fun d => bindO (st.ev y) fun s => bindO (srcXs st 6 s) fun ys0 => bindO (fzLL ys0) fun ys => (∀ y ∈ ys, y.length = 6) ∧ appT 29 6 88 st tk K d ys :=
  append_t Tryd.underlying26 sz29 by29 z29 rfl (by decide)
theorem bs26 {id tk n : Nat} {K : PS → Prop} {l : List (Nat × Operand)} :
    stepN dr Tryd.prog ⟨d, .buildSlice 26 n l.toArray, ty, pos, af, g⟩ st id tk K = bindO (evParts st l) fun ps => bindO (valsOf ps 0) fun xs => (∀ x ∈ xs, x.length = 6) ∧ xs.length = n ∧ n * 6 ≤ 16777216 ∧ K (PS.put { st with toks := upd st.toks tk ⟨29, 6, n⟩ } d (.row tk xs)) :=
  s_buildSlice Tryd.underlying26 sz29 z29 (by decide) rfl
theorem mks26 {K : PS → Prop} {l c : Operand} : stepN dr Tryd.prog ⟨d, .makeSlice 26 l c, ty, pos, af, g⟩ st id tk K = bindO (st.ev l) fun p => bindO (st.ev c) fun q => intK p fun n => intK q fun m => n = m ∧ 0 ≤ n ∧ n ≤ 9223372036854775807 ∧ 88 * n ≤ 281474976710656 ∧
    K (PS.put { st with heap := (id, .box 29 ((List.range (n.toNat * 6)).map fun i => [.val (.int .i64 0), .val (.bool false), .val (.int .i64 0), .val (.string ByteArray.empty), .val (.slice none 0 0), .val (.slice none 0 0)].getD (i % 6) (.val .nilIface))) :: st.heap } d (.ms id 0 n.toNat n.toNat)) :=
  s_makeSlice Tryd.underlying26 sz29 by29 z29 rfl rfl (by decide) rfl
-- 27: []string
theorem rdo27 {cs : List PV} {off : Nat} : readCells Tryd.prog 27 cs off = cs[off]? := rd_one ag27
theorem alc27 {K : PS → Prop} : stepN dr Tryd.prog ⟨d, .alloc 27, ty, pos, af, g⟩ st id tk K = K (PS.put { st with heap := (id, .box 27 [.val (.slice none 0 0)]) :: st.heap } d (.ptr id 0)) := s_allocC z27 rfl rfl
theorem lns27 {K : PV → Prop} : lenK Tryd.prog st 27 x K = bindO (st.ev x) (lenP K) := len_slice Tryd.underlying27
theorem ixs27 {K : PV → Prop} : indexAddrK Tryd.prog st 27 x y K = bindO (st.ev x) fun p => bindO (st.ev y) fun q => intK q fun i => ixP 1 i K p := ix_slice Tryd.underlying27 sz9
theorem sls27 {lo hi : Option Operand} {K : PV → Prop} : sliceK Tryd.prog st 27 x lo hi K = bindO (st.ev x) (slcP 1 st lo hi K) := slc_slice Tryd.underlying27 sz9
theorem app27 {tk : Nat} {K : Delta → Prop} : appendK Tryd.prog st tk ⟨.builtin .append, #[x, y], #[27, 27]⟩ K = bindO (st.ev x) fun d => bindO (st.ev y) fun s => bindO (srcXs st 1 s) fun ys0 => bindO (fzLL ys0) fun ys => (∀ y ∈ ys, y.length = 1) ∧ appT 9 1 16 st tk K d ys :=
  append_t Tryd.underlying27 sz9 by9 z9 rfl (by decide)
theorem bs27 {id tk n : Nat} {K : PS → Prop} {l : List (Nat × Operand)} :
    stepN dr Tryd.prog ⟨d, .buildSlice 27 n l.toArray, ty, pos, af, g⟩ st id tk K = bindO (evParts st l) fun ps => bindO (valsOf ps 0) fun xs => (∀ x ∈ xs, x.length = 1) ∧ xs.length = n ∧ n * 1 ≤ 16777216 ∧ K (PS.put { st with toks := upd st.toks tk ⟨9, 1, n⟩ } d (.row tk xs)) :=
  s_buildSlice Tryd.underlying27 sz9 z9 (by decide) rfl
theorem mks27 {K : PS → Prop} {l c : Operand} : stepN dr Tryd.prog ⟨d, .makeSlice 27 l c, ty, pos, af, g⟩ st id tk K = bindO (st.ev l) fun p => bindO (st.ev c) fun q => intK p fun n => intK q fun m => n = m ∧ 0 ≤ n ∧ n ≤ 9223372036854775807 ∧ 16 * n ≤ 281474976710656 ∧
    K (PS.put { st with heap := (id, .box 9 ((List.range (n.toNat * 1)).map fun i => [.val (.string ByteArray.empty)].getD (i % 1) (.val .nilIface))) :: st.heap } d (.ms id 0 n.toNat n.toNat)) :=
  s_makeSlice Tryd.underlying27 sz9 by9 z9 rfl rfl (by decide) rfl
-- 28: struct { Kind int; Bool bool; Int int64; Str string; Items []value.Value; Keys []string }
-- 29: value.Value
theorem rda29 {cs : List PV} {off : Nat} : readCells Tryd.prog 29 cs off = if off + 6 ≤ cs.length then some (.agg ((cs.drop off).take 6)) else none := rd_agg ag29 sz29
theorem alc29 {K : PS → Prop} : stepN dr Tryd.prog ⟨d, .alloc 29, ty, pos, af, g⟩ st id tk K = K (PS.put { st with heap := (id, .box 29 [.val (.int .i64 0), .val (.bool false), .val (.int .i64 0), .val (.string ByteArray.empty), .val (.slice none 0 0), .val (.slice none 0 0)]) :: st.heap } d (.ptr id 0)) := s_allocC z29 rfl rfl
theorem mki29 {K : PS → Prop} : stepN dr Tryd.prog ⟨d, .makeInterface 29 x, ty, pos, af, g⟩ st id tk K = bindO (st.ev x) fun p => K (st.put d (.iface 29 p)) := s_makeIface Tryd.underlying29 rfl
theorem fa29_0 {K : PV → Prop} : fieldAddrK Tryd.prog st 29 x 0 K = bindO (st.ev x) (fldP 0 K) :=
  fld_ (P := Tryd.prog) (st := st) (x := x) (K := K) (f := 0) Tryd.underlying29 rfl sz3 (by decide)
theorem fi29_0 {K : PV → Prop} : fieldK Tryd.prog st 29 x 0 K = bindO (st.ev x) (fieldP Tryd.prog 3 0 K) :=
  field_ (P := Tryd.prog) (st := st) (x := x) (K := K) (f := 0) Tryd.underlying29 rfl
theorem fa29_1 {K : PV → Prop} : fieldAddrK Tryd.prog st 29 x 1 K = bindO (st.ev x) (fldP 1 K) :=
  fld_ (P := Tryd.prog) (st := st) (x := x) (K := K) (f := 1) Tryd.underlying29 rfl sz4 (by decide)
theorem fi29_1 {K : PV → Prop} : fieldK Tryd.prog st 29 x 1 K = bindO (st.ev x) (fieldP Tryd.prog 4 1 K) :=
  field_ (P := Tryd.prog) (st := st) (x := x) (K := K) (f := 1) Tryd.underlying29 rfl
theorem fa29_2 {K : PV → Prop} : fieldAddrK Tryd.prog st 29 x 2 K = bindO (st.ev x) (fldP 2 K) :=
  fld_ (P := Tryd.prog) (st := st) (x := x) (K := K) (f := 2) Tryd.underlying29 rfl sz2 (by decide)
theorem fi29_2 {K : PV → Prop} : fieldK Tryd.prog st 29 x 2 K = bindO (st.ev x) (fieldP Tryd.prog 2 2 K) :=
  field_ (P := Tryd.prog) (st := st) (x := x) (K := K) (f := 2) Tryd.underlying29 rfl
theorem fa29_3 {K : PV → Prop} : fieldAddrK Tryd.prog st 29 x 3 K = bindO (st.ev x) (fldP 3 K) :=
  fld_ (P := Tryd.prog) (st := st) (x := x) (K := K) (f := 3) Tryd.underlying29 rfl sz9 (by decide)
theorem fi29_3 {K : PV → Prop} : fieldK Tryd.prog st 29 x 3 K = bindO (st.ev x) (fieldP Tryd.prog 9 3 K) :=
  field_ (P := Tryd.prog) (st := st) (x := x) (K := K) (f := 3) Tryd.underlying29 rfl
theorem fa29_4 {K : PV → Prop} : fieldAddrK Tryd.prog st 29 x 4 K = bindO (st.ev x) (fldP 4 K) :=
  fld_ (P := Tryd.prog) (st := st) (x := x) (K := K) (f := 4) Tryd.underlying29 rfl sz26 (by decide)
theorem fi29_4 {K : PV → Prop} : fieldK Tryd.prog st 29 x 4 K = bindO (st.ev x) (fieldP Tryd.prog 26 4 K) :=
  field_ (P := Tryd.prog) (st := st) (x := x) (K := K) (f := 4) Tryd.underlying29 rfl
theorem fa29_5 {K : PV → Prop} : fieldAddrK Tryd.prog st 29 x 5 K = bindO (st.ev x) (fldP 5 K) :=
  fld_ (P := Tryd.prog) (st := st) (x := x) (K := K) (f := 5) Tryd.underlying29 rfl sz27 (by decide)
theorem fi29_5 {K : PV → Prop} : fieldK Tryd.prog st 29 x 5 K = bindO (st.ev x) (fieldP Tryd.prog 27 5 K) :=
  field_ (P := Tryd.prog) (st := st) (x := x) (K := K) (f := 5) Tryd.underlying29 rfl
theorem bld29 {l : List (Nat × Operand)} {K : PV → Prop} : buildK Tryd.prog st 29 l K = bindO (evParts st l) fun ps => (ps.all fun e => match e.2 with | .tup _ => false | _ => true) = true ∧ bindO (fillP (fun i => [(0, 1), (1, 1), (2, 1), (3, 1), (4, 1), (5, 1)][i]?) [.val (.int .i64 0), .val (.bool false), .val (.int .i64 0), .val (.string ByteArray.empty), .val (.slice none 0 0), .val (.slice none 0 0)] ps) fun cs => K (.agg cs) :=
  buildC Tryd.underlying29 z29 (by kernel_rfl) rfl rfl
-- 30: func(string) value.Value
-- 31: func(string, string) bool
-- 32: []chevallaw03.Node
theorem rdo32 {cs : List PV} {off : Nat} : readCells Tryd.prog 32 cs off = cs[off]? := rd_one ag32
theorem alc32 {K : PS → Prop} : stepN dr Tryd.prog ⟨d, .alloc 32, ty, pos, af, g⟩ st id tk K = K (PS.put { st with heap := (id, .box 32 [.val (.slice none 0 0)]) :: st.heap } d (.ptr id 0)) := s_allocC z32 rfl rfl
theorem lns32 {K : PV → Prop} : lenK Tryd.prog st 32 x K = bindO (st.ev x) (lenP K) := len_slice Tryd.underlying32
theorem ixs32 {K : PV → Prop} : indexAddrK Tryd.prog st 32 x y K = bindO (st.ev x) fun p => bindO (st.ev y) fun q => intK q fun i => ixP 5 i K p := ix_slice Tryd.underlying32 sz62
theorem sls32 {lo hi : Option Operand} {K : PV → Prop} : sliceK Tryd.prog st 32 x lo hi K = bindO (st.ev x) (slcP 5 st lo hi K) := slc_slice Tryd.underlying32 sz62
theorem app32 {tk : Nat} {K : Delta → Prop} : appendK Tryd.prog st tk ⟨.builtin .append, #[x, y], #[32, 32]⟩ K = bindO (st.ev x) fun d => bindO (st.ev y) fun s => bindO (srcXs st 5 s) fun ys0 => bindO (fzLL ys0) fun ys => (∀ y ∈ ys, y.length = 5) ∧ appT 62 5 80 st tk K d ys :=
  append_t Tryd.underlying32 sz62 by62 z62 rfl (by decide)
theorem bs32 {id tk n : Nat} {K : PS → Prop} {l : List (Nat × Operand)} :
    stepN dr Tryd.prog ⟨d, .buildSlice 32 n l.toArray, ty, pos, af, g⟩ st id tk K = bindO (evParts st l) fun ps => bindO (valsOf ps 0) fun xs => (∀ x ∈ xs, x.length = 5) ∧ xs.length = n ∧ n * 5 ≤ 16777216 ∧ K (PS.put { st with toks := upd st.toks tk ⟨62, 5, n⟩ } d (.row tk xs)) :=
  s_buildSlice Tryd.underlying32 sz62 z62 (by decide) rfl
theorem mks32 {K : PS → Prop} {l c : Operand} : stepN dr Tryd.prog ⟨d, .makeSlice 32 l c, ty, pos, af, g⟩ st id tk K = bindO (st.ev l) fun p => bindO (st.ev c) fun q => intK p fun n => intK q fun m => n = m ∧ 0 ≤ n ∧ n ≤ 9223372036854775807 ∧ 80 * n ≤ 281474976710656 ∧
    K (PS.put { st with heap := (id, .box 62 ((List.range (n.toNat * 5)).map fun i => [.val (.int .u8 0), .val (.int .i64 0), .val (.string ByteArray.empty), .val (.slice none 0 0), .val (.slice none 0 0)].getD (i % 5) (.val .nilIface))) :: st.heap } d (.ms id 0 n.toNat n.toNat)) :=
  s_makeSlice Tryd.underlying32 sz62 by62 z62 rfl rfl (by decide) rfl
-- 33: []chevalref03.V
theorem rdo33 {cs : List PV} {off : Nat} : readCells Tryd.prog 33 cs off = cs[off]? := rd_one ag33
theorem alc33 {K : PS → Prop} : stepN dr Tryd.prog ⟨d, .alloc 33, ty, pos, af, g⟩ st id tk K = K (PS.put { st with heap := (id, .box 33 [.val (.slice none 0 0)]) :: st.heap } d (.ptr id 0)) := s_allocC z33 rfl rfl
theorem lns33 {K : PV → Prop} : lenK Tryd.prog st 33 x K = bindO (st.ev x) (lenP K) := len_slice Tryd.underlying33
theorem ixs33 {K : PV → Prop} : indexAddrK Tryd.prog st 33 x y K = bindO (st.ev x) fun p => bindO (st.ev y) fun q => intK q fun i => ixP 6 i K p := ix_slice Tryd.underlying33 sz35
theorem sls33 {lo hi : Option Operand} {K : PV → Prop} : sliceK Tryd.prog st 33 x lo hi K = bindO (st.ev x) (slcP 6 st lo hi K) := slc_slice Tryd.underlying33 sz35
theorem app33 {tk : Nat} {K : Delta → Prop} : appendK Tryd.prog st tk ⟨.builtin .append, #[x, y], #[33, 33]⟩ K = bindO (st.ev x) fun d => bindO (st.ev y) fun s => bindO (srcXs st 6 s) fun ys0 => bindO (fzLL ys0) fun ys => (∀ y ∈ ys, y.length = 6) ∧ appT 35 6 88 st tk K d ys :=
  append_t Tryd.underlying33 sz35 by35 z35 rfl (by decide)
theorem bs33 {id tk n : Nat} {K : PS → Prop} {l : List (Nat × Operand)} :
    stepN dr Tryd.prog ⟨d, .buildSlice 33 n l.toArray, ty, pos, af, g⟩ st id tk K = bindO (evParts st l) fun ps => bindO (valsOf ps 0) fun xs => (∀ x ∈ xs, x.length = 6) ∧ xs.length = n ∧ n * 6 ≤ 16777216 ∧ K (PS.put { st with toks := upd st.toks tk ⟨35, 6, n⟩ } d (.row tk xs)) :=
  s_buildSlice Tryd.underlying33 sz35 z35 (by decide) rfl
theorem mks33 {K : PS → Prop} {l c : Operand} : stepN dr Tryd.prog ⟨d, .makeSlice 33 l c, ty, pos, af, g⟩ st id tk K = bindO (st.ev l) fun p => bindO (st.ev c) fun q => intK p fun n => intK q fun m => n = m ∧ 0 ≤ n ∧ n ≤ 9223372036854775807 ∧ 88 * n ≤ 281474976710656 ∧
    K (PS.put { st with heap := (id, .box 35 ((List.range (n.toNat * 6)).map fun i => [.val (.int .i64 0), .val (.bool false), .val (.int .i64 0), .val (.string ByteArray.empty), .val (.slice none 0 0), .val (.slice none 0 0)].getD (i % 6) (.val .nilIface))) :: st.heap } d (.ms id 0 n.toNat n.toNat)) :=
  s_makeSlice Tryd.underlying33 sz35 by35 z35 rfl rfl (by decide) rfl
-- 34: struct { Kind int; Bool bool; Int int64; Str string; Items []chevalref03.V; Keys []string }
-- 35: chevalref03.V
theorem rda35 {cs : List PV} {off : Nat} : readCells Tryd.prog 35 cs off = if off + 6 ≤ cs.length then some (.agg ((cs.drop off).take 6)) else none := rd_agg ag35 sz35
theorem alc35 {K : PS → Prop} : stepN dr Tryd.prog ⟨d, .alloc 35, ty, pos, af, g⟩ st id tk K = K (PS.put { st with heap := (id, .box 35 [.val (.int .i64 0), .val (.bool false), .val (.int .i64 0), .val (.string ByteArray.empty), .val (.slice none 0 0), .val (.slice none 0 0)]) :: st.heap } d (.ptr id 0)) := s_allocC z35 rfl rfl
theorem mki35 {K : PS → Prop} : stepN dr Tryd.prog ⟨d, .makeInterface 35 x, ty, pos, af, g⟩ st id tk K = bindO (st.ev x) fun p => K (st.put d (.iface 35 p)) := s_makeIface Tryd.underlying35 rfl
theorem fa35_0 {K : PV → Prop} : fieldAddrK Tryd.prog st 35 x 0 K = bindO (st.ev x) (fldP 0 K) :=
  fld_ (P := Tryd.prog) (st := st) (x := x) (K := K) (f := 0) Tryd.underlying35 rfl sz3 (by decide)
theorem fi35_0 {K : PV → Prop} : fieldK Tryd.prog st 35 x 0 K = bindO (st.ev x) (fieldP Tryd.prog 3 0 K) :=
  field_ (P := Tryd.prog) (st := st) (x := x) (K := K) (f := 0) Tryd.underlying35 rfl
theorem fa35_1 {K : PV → Prop} : fieldAddrK Tryd.prog st 35 x 1 K = bindO (st.ev x) (fldP 1 K) :=
  fld_ (P := Tryd.prog) (st := st) (x := x) (K := K) (f := 1) Tryd.underlying35 rfl sz4 (by decide)
theorem fi35_1 {K : PV → Prop} : fieldK Tryd.prog st 35 x 1 K = bindO (st.ev x) (fieldP Tryd.prog 4 1 K) :=
  field_ (P := Tryd.prog) (st := st) (x := x) (K := K) (f := 1) Tryd.underlying35 rfl
theorem fa35_2 {K : PV → Prop} : fieldAddrK Tryd.prog st 35 x 2 K = bindO (st.ev x) (fldP 2 K) :=
  fld_ (P := Tryd.prog) (st := st) (x := x) (K := K) (f := 2) Tryd.underlying35 rfl sz2 (by decide)
theorem fi35_2 {K : PV → Prop} : fieldK Tryd.prog st 35 x 2 K = bindO (st.ev x) (fieldP Tryd.prog 2 2 K) :=
  field_ (P := Tryd.prog) (st := st) (x := x) (K := K) (f := 2) Tryd.underlying35 rfl
theorem fa35_3 {K : PV → Prop} : fieldAddrK Tryd.prog st 35 x 3 K = bindO (st.ev x) (fldP 3 K) :=
  fld_ (P := Tryd.prog) (st := st) (x := x) (K := K) (f := 3) Tryd.underlying35 rfl sz9 (by decide)
theorem fi35_3 {K : PV → Prop} : fieldK Tryd.prog st 35 x 3 K = bindO (st.ev x) (fieldP Tryd.prog 9 3 K) :=
  field_ (P := Tryd.prog) (st := st) (x := x) (K := K) (f := 3) Tryd.underlying35 rfl
theorem fa35_4 {K : PV → Prop} : fieldAddrK Tryd.prog st 35 x 4 K = bindO (st.ev x) (fldP 4 K) :=
  fld_ (P := Tryd.prog) (st := st) (x := x) (K := K) (f := 4) Tryd.underlying35 rfl sz33 (by decide)
theorem fi35_4 {K : PV → Prop} : fieldK Tryd.prog st 35 x 4 K = bindO (st.ev x) (fieldP Tryd.prog 33 4 K) :=
  field_ (P := Tryd.prog) (st := st) (x := x) (K := K) (f := 4) Tryd.underlying35 rfl
theorem fa35_5 {K : PV → Prop} : fieldAddrK Tryd.prog st 35 x 5 K = bindO (st.ev x) (fldP 5 K) :=
  fld_ (P := Tryd.prog) (st := st) (x := x) (K := K) (f := 5) Tryd.underlying35 rfl sz27 (by decide)
theorem fi35_5 {K : PV → Prop} : fieldK Tryd.prog st 35 x 5 K = bindO (st.ev x) (fieldP Tryd.prog 27 5 K) :=
  field_ (P := Tryd.prog) (st := st) (x := x) (K := K) (f := 5) Tryd.underlying35 rfl
theorem bld35 {l : List (Nat × Operand)} {K : PV → Prop} : buildK Tryd.prog st 35 l K = bindO (evParts st l) fun ps => (ps.all fun e => match e.2 with | .tup _ => false | _ => true) = true ∧ bindO (fillP (fun i => [(0, 1), (1, 1), (2, 1), (3, 1), (4, 1), (5, 1)][i]?) [.val (.int .i64 0), .val (.bool false), .val (.int .i64 0), .val (.string ByteArray.empty), .val (.slice none 0 0), .val (.slice none 0 0)] ps) fun cs => K (.agg cs) :=
  buildC Tryd.underlying35 z35 (by kernel_rfl) rfl rfl
-- 36: func([]chevallaw03.Node) chevalref03.V
-- 37: func(value.Value, int) string
-- 38: func(chevalref03.V) value.Value
-- 39: func(chevalref03.V, int) string
-- 40: func([]chevallaw03.Node, int) bool
-- 41: api.Errno
theorem rdo41 {cs : List PV} {off : Nat} : readCells Tryd.prog 41 cs off = cs[off]? := rd_one ag41
theorem alc41 {K : PS → Prop} : stepN dr Tryd.prog ⟨d, .alloc 41, ty, pos, af, g⟩ st id tk K = K (PS.put { st with heap := (id, .box 41 [.val (.int .i64 0)]) :: st.heap } d (.ptr id 0)) := s_allocC z41 rfl rfl
theorem mki41 {K : PS → Prop} : stepN dr Tryd.prog ⟨d, .makeInterface 41 x, ty, pos, af, g⟩ st id tk K = bindO (st.ev x) fun p => K (st.put d (.iface 41 p)) := s_makeIface Tryd.underlying41 rfl
-- 43: func([]string, []value.Value) (value.Value, api.Errno)
-- 44: func(...value.Value) value.Value
-- 45: func(int64) value.Value
-- 46: []int
theorem rdo46 {cs : List PV} {off : Nat} : readCells Tryd.prog 46 cs off = cs[off]? := rd_one ag46
theorem alc46 {K : PS → Prop} : stepN dr Tryd.prog ⟨d, .alloc 46, ty, pos, af, g⟩ st id tk K = K (PS.put { st with heap := (id, .box 46 [.val (.slice none 0 0)]) :: st.heap } d (.ptr id 0)) := s_allocC z46 rfl rfl
theorem lns46 {K : PV → Prop} : lenK Tryd.prog st 46 x K = bindO (st.ev x) (lenP K) := len_slice Tryd.underlying46
theorem ixs46 {K : PV → Prop} : indexAddrK Tryd.prog st 46 x y K = bindO (st.ev x) fun p => bindO (st.ev y) fun q => intK q fun i => ixP 1 i K p := ix_slice Tryd.underlying46 sz3
theorem sls46 {lo hi : Option Operand} {K : PV → Prop} : sliceK Tryd.prog st 46 x lo hi K = bindO (st.ev x) (slcP 1 st lo hi K) := slc_slice Tryd.underlying46 sz3
theorem app46 {tk : Nat} {K : Delta → Prop} : appendK Tryd.prog st tk ⟨.builtin .append, #[x, y], #[46, 46]⟩ K = bindO (st.ev x) fun d => bindO (st.ev y) fun s => bindO (srcXs st 1 s) fun ys0 => bindO (fzLL ys0) fun ys => (∀ y ∈ ys, y.length = 1) ∧ appT 3 1 8 st tk K d ys :=
  append_t Tryd.underlying46 sz3 by3 z3 rfl (by decide)
theorem bs46 {id tk n : Nat} {K : PS → Prop} {l : List (Nat × Operand)} :
    stepN dr Tryd.prog ⟨d, .buildSlice 46 n l.toArray, ty, pos, af, g⟩ st id tk K = bindO (evParts st l) fun ps => bindO (valsOf ps 0) fun xs => (∀ x ∈ xs, x.length = 1) ∧ xs.length = n ∧ n * 1 ≤ 16777216 ∧ K (PS.put { st with toks := upd st.toks tk ⟨3, 1, n⟩ } d (.row tk xs)) :=
  s_buildSlice Tryd.underlying46 sz3 z3 (by decide) rfl
theorem mks46 {K : PS → Prop} {l c : Operand} : stepN dr Tryd.prog ⟨d, .makeSlice 46 l c, ty, pos, af, g⟩ st id tk K = bindO (st.ev l) fun p => bindO (st.ev c) fun q => intK p fun n => intK q fun m => n = m ∧ 0 ≤ n ∧ n ≤ 9223372036854775807 ∧ 8 * n ≤ 281474976710656 ∧
    K (PS.put { st with heap := (id, .box 3 ((List.range (n.toNat * 1)).map fun i => [.val (.int .i64 0)].getD (i % 1) (.val .nilIface))) :: st.heap } d (.ms id 0 n.toNat n.toNat)) :=
  s_makeSlice Tryd.underlying46 sz3 by3 z3 rfl rfl (by decide) rfl
-- 48: func(string) ([]int, int)
-- 49: *strings.Builder
theorem rdo49 {cs : List PV} {off : Nat} : readCells Tryd.prog 49 cs off = cs[off]? := rd_one ag49
theorem alc49 {K : PS → Prop} : stepN dr Tryd.prog ⟨d, .alloc 49, ty, pos, af, g⟩ st id tk K = K (PS.put { st with heap := (id, .box 49 [.val (.pointer none)]) :: st.heap } d (.ptr id 0)) := s_allocC z49 rfl rfl
theorem mki49 {K : PS → Prop} : stepN dr Tryd.prog ⟨d, .makeInterface 49 x, ty, pos, af, g⟩ st id tk K = bindO (st.ev x) fun p => K (st.put d (.iface 49 p)) := s_makeIface Tryd.underlying49 rfl
-- 50: []uint8
theorem rdo50 {cs : List PV} {off : Nat} : readCells Tryd.prog 50 cs off = cs[off]? := rd_one ag50
theorem alc50 {K : PS → Prop} : stepN dr Tryd.prog ⟨d, .alloc 50, ty, pos, af, g⟩ st id tk K = K (PS.put { st with heap := (id, .box 50 [.val (.slice none 0 0)]) :: st.heap } d (.ptr id 0)) := s_allocC z50 rfl rfl
theorem lns50 {K : PV → Prop} : lenK Tryd.prog st 50 x K = bindO (st.ev x) (lenP K) := len_slice Tryd.underlying50
theorem ixs50 {K : PV → Prop} : indexAddrK Tryd.prog st 50 x y K = bindO (st.ev x) fun p => bindO (st.ev y) fun q => intK q fun i => ixP 1 i K p := ix_slice Tryd.underlying50 sz5
theorem sls50 {lo hi : Option Operand} {K : PV → Prop} : sliceK Tryd.prog st 50 x lo hi K = bindO (st.ev x) (slcP 1 st lo hi K) := slc_slice Tryd.underlying50 sz5
theorem app50 {tk : Nat} {K : Delta → Prop} : appendK Tryd.prog st tk ⟨.builtin .append, #[x, y], #[50, 50]⟩ K = bindO (st.ev x) fun d => bindO (st.ev y) fun s => bindO (srcXs st 1 s) fun ys0 => bindO (fzLL ys0) fun ys => (∀ y ∈ ys, y.length = 1) ∧ appT 5 1 1 st tk K d ys :=
  append_t Tryd.underlying50 sz5 by5 z5 rfl (by decide)
theorem bs50 {id tk n : Nat} {K : PS → Prop} {l : List (Nat × Operand)} :
    stepN dr Tryd.prog ⟨d, .buildSlice 50 n l.toArray, ty, pos, af, g⟩ st id tk K = bindO (evParts st l) fun ps => bindO (valsOf ps 0) fun xs => (∀ x ∈ xs, x.length = 1) ∧ xs.length = n ∧ n * 1 ≤ 16777216 ∧ K (PS.put { st with toks := upd st.toks tk ⟨5, 1, n⟩ } d (.row tk xs)) :=
  s_buildSlice Tryd.underlying50 sz5 z5 (by decide) rfl
theorem isb50 : isBytes Tryd.prog 50 = True := eq_true ⟨5, Tryd.underlying50, Tryd.underlying5⟩
theorem aps50 {tk : Nat} {K : Delta → Prop} : appendK Tryd.prog st tk ⟨.builtin .append, #[x, y], #[50, 9]⟩ K = bindO (st.ev x) fun d => bindO (st.ev y) fun s => appS 5 1 st tk K d s :=
  append_s Tryd.underlying50 Tryd.underlying9 sz5 by5 z5
theorem cvr50 {k : Nat} {xs : List Int} {K : PV → Prop} : convK Tryd.prog 50 9 (rowC k xs) K = K (.val (.string (strOfNums xs))) := conv_rowC (by rw [Tryd.underlying50]; rfl) ⟨5, Tryd.underlying50, Tryd.underlying5⟩ Tryd.underlying9
theorem mks50 {K : PS → Prop} {l c : Operand} : stepN dr Tryd.prog ⟨d, .makeSlice 50 l c, ty, pos, af, g⟩ st id tk K = bindO (st.ev l) fun p => bindO (st.ev c) fun q => intK p fun n => intK q fun m => n = m ∧ 0 ≤ n ∧ n ≤ 9223372036854775807 ∧ 1 * n ≤ 281474976710656 ∧
    K (PS.put { st with heap := (id, .box 5 ((List.range (n.toNat * 1)).map fun i => [.val (.int .u8 0)].getD (i % 1) (.val .nilIface))) :: st.heap } d (.ms id 0 n.toNat n.toNat)) :=
  s_makeSlice Tryd.underlying50 sz5 by5 z5 rfl rfl (by decide) rfl
-- 51: struct { addr *strings.Builder; buf []uint8 }
-- 52: strings.Builder
theorem rda52 {cs : List PV} {off : Nat} : readCells Tryd.prog 52 cs off = if off + 2 ≤ cs.length then some (.agg ((cs.drop off).take 2)) else none := rd_agg ag52 sz52
theorem alc52 {K : PS → Prop} : stepN dr Tryd.prog ⟨d, .alloc 52, ty, pos, af, g⟩ st id tk K = K (PS.put { st with heap := (id, .box 52 [.val (.pointer none), .val (.slice none 0 0)]) :: st.heap } d (.ptr id 0)) := s_allocC z52 rfl rfl
theorem mki52 {K : PS → Prop} : stepN dr Tryd.prog ⟨d, .makeInterface 52 x, ty, pos, af, g⟩ st id tk K = bindO (st.ev x) fun p => K (st.put d (.iface 52 p)) := s_makeIface Tryd.underlying52 rfl
theorem fa52_0 {K : PV → Prop} : fieldAddrK Tryd.prog st 52 x 0 K = bindO (st.ev x) (fldP 0 K) :=
  fld_ (P := Tryd.prog) (st := st) (x := x) (K := K) (f := 0) Tryd.underlying52 rfl sz49 (by decide)
theorem fi52_0 {K : PV → Prop} : fieldK Tryd.prog st 52 x 0 K = bindO (st.ev x) (fieldP Tryd.prog 49 0 K) :=
  field_ (P := Tryd.prog) (st := st) (x := x) (K := K) (f := 0) Tryd.underlying52 rfl
theorem fa52_1 {K : PV → Prop} : fieldAddrK Tryd.prog st 52 x 1 K = bindO (st.ev x) (fldP 1 K) :=
  fld_ (P := Tryd.prog) (st := st) (x := x) (K := K) (f := 1) Tryd.underlying52 rfl sz50 (by decide)
theorem fi52_1 {K : PV → Prop} : fieldK Tryd.prog st 52 x 1 K = bindO (st.ev x) (fieldP Tryd.prog 50 1 K) :=
  field_ (P := Tryd.prog) (st := st) (x := x) (K := K) (f := 1) Tryd.underlying52 rfl
theorem bld52 {l : List (Nat × Operand)} {K : PV → Prop} : buildK Tryd.prog st 52 l K = bindO (evParts st l) fun ps => (ps.all fun e => match e.2 with | .tup _ => false | _ => true) = true ∧ bindO (fillP (fun i => [(0, 1), (1, 1)][i]?) [.val (.pointer none), .val (.slice none 0 0)] ps) fun cs => K (.agg cs) :=
  buildC Tryd.underlying52 z52 (by kernel_rfl) rfl rfl
-- 53: func(*render.writer, int)
theorem rdo53 {cs : List PV} {off : Nat} : readCells Tryd.prog 53 cs off = cs[off]? := rd_one ag53
-- 54: struct { strings.Builder; colon string; gap func(*render.writer, int); by int }
-- 55: render.writer
theorem rda55 {cs : List PV} {off : Nat} : readCells Tryd.prog 55 cs off = if off + 5 ≤ cs.length then some (.agg ((cs.drop off).take 5)) else none := rd_agg ag55 sz55
theorem alc55 {K : PS → Prop} : stepN dr Tryd.prog ⟨d, .alloc 55, ty, pos, af, g⟩ st id tk K = K (PS.put { st with heap := (id, .box 55 [.val (.pointer none), .val (.slice none 0 0), .val (.string ByteArray.empty), .val (.nilFunc), .val (.int .i64 0)]) :: st.heap } d (.ptr id 0)) := s_allocC z55 rfl rfl
theorem mki55 {K : PS → Prop} : stepN dr Tryd.prog ⟨d, .makeInterface 55 x, ty, pos, af, g⟩ st id tk K = bindO (st.ev x) fun p => K (st.put d (.iface 55 p)) := s_makeIface Tryd.underlying55 rfl
theorem fa55_0 {K : PV → Prop} : fieldAddrK Tryd.prog st 55 x 0 K = bindO (st.ev x) (fldP 0 K) :=
  fld_ (P := Tryd.prog) (st := st) (x := x) (K := K) (f := 0) Tryd.underlying55 rfl sz52 (by decide)
theorem fi55_0 {K : PV → Prop} : fieldK Tryd.prog st 55 x 0 K = bindO (st.ev x) (fieldP Tryd.prog 52 0 K) :=
  field_ (P := Tryd.prog) (st := st) (x := x) (K := K) (f := 0) Tryd.underlying55 rfl
theorem fa55_1 {K : PV → Prop} : fieldAddrK Tryd.prog st 55 x 1 K = bindO (st.ev x) (fldP 2 K) :=
  fld_ (P := Tryd.prog) (st := st) (x := x) (K := K) (f := 1) Tryd.underlying55 rfl sz9 (by decide)
theorem fi55_1 {K : PV → Prop} : fieldK Tryd.prog st 55 x 1 K = bindO (st.ev x) (fieldP Tryd.prog 9 2 K) :=
  field_ (P := Tryd.prog) (st := st) (x := x) (K := K) (f := 1) Tryd.underlying55 rfl
theorem fa55_2 {K : PV → Prop} : fieldAddrK Tryd.prog st 55 x 2 K = bindO (st.ev x) (fldP 3 K) :=
  fld_ (P := Tryd.prog) (st := st) (x := x) (K := K) (f := 2) Tryd.underlying55 rfl sz53 (by decide)
theorem fi55_2 {K : PV → Prop} : fieldK Tryd.prog st 55 x 2 K = bindO (st.ev x) (fieldP Tryd.prog 53 3 K) :=
  field_ (P := Tryd.prog) (st := st) (x := x) (K := K) (f := 2) Tryd.underlying55 rfl
theorem fa55_3 {K : PV → Prop} : fieldAddrK Tryd.prog st 55 x 3 K = bindO (st.ev x) (fldP 4 K) :=
  fld_ (P := Tryd.prog) (st := st) (x := x) (K := K) (f := 3) Tryd.underlying55 rfl sz3 (by decide)
theorem fi55_3 {K : PV → Prop} : fieldK Tryd.prog st 55 x 3 K = bindO (st.ev x) (fieldP Tryd.prog 3 4 K) :=
  field_ (P := Tryd.prog) (st := st) (x := x) (K := K) (f := 3) Tryd.underlying55 rfl
theorem bld55 {l : List (Nat × Operand)} {K : PV → Prop} : buildK Tryd.prog st 55 l K = bindO (evParts st l) fun ps => (ps.all fun e => match e.2 with | .tup _ => false | _ => true) = true ∧ bindO (fillP (fun i => [(0, 2), (2, 1), (3, 1), (4, 1)][i]?) [.val (.pointer none), .val (.slice none 0 0), .val (.string ByteArray.empty), .val (.nilFunc), .val (.int .i64 0)] ps) fun cs => K (.agg cs) :=
  buildC Tryd.underlying55 z55 (by kernel_rfl) rfl rfl
-- 56: func(string)
-- 57: func() string
-- 58: *render.writer
theorem rdo58 {cs : List PV} {off : Nat} : readCells Tryd.prog 58 cs off = cs[off]? := rd_one ag58
theorem alc58 {K : PS → Prop} : stepN dr Tryd.prog ⟨d, .alloc 58, ty, pos, af, g⟩ st id tk K = K (PS.put { st with heap := (id, .box 58 [.val (.pointer none)]) :: st.heap } d (.ptr id 0)) := s_allocC z58 rfl rfl
theorem mki58 {K : PS → Prop} : stepN dr Tryd.prog ⟨d, .makeInterface 58 x, ty, pos, af, g⟩ st id tk K = bindO (st.ev x) fun p => K (st.put d (.iface 58 p)) := s_makeIface Tryd.underlying58 rfl
-- 59: func(int)
theorem rdo59 {cs : List PV} {off : Nat} : readCells Tryd.prog 59 cs off = cs[off]? := rd_one ag59
-- 60: func(value.Value, int)
-- 61: struct { Kind uint8; Int int64; Str string; Items []uint8; Keys []string }
-- 62: chevallaw03.Node
theorem rda62 {cs : List PV} {off : Nat} : readCells Tryd.prog 62 cs off = if off + 5 ≤ cs.length then some (.agg ((cs.drop off).take 5)) else none := rd_agg ag62 sz62
theorem alc62 {K : PS → Prop} : stepN dr Tryd.prog ⟨d, .alloc 62, ty, pos, af, g⟩ st id tk K = K (PS.put { st with heap := (id, .box 62 [.val (.int .u8 0), .val (.int .i64 0), .val (.string ByteArray.empty), .val (.slice none 0 0), .val (.slice none 0 0)]) :: st.heap } d (.ptr id 0)) := s_allocC z62 rfl rfl
theorem mki62 {K : PS → Prop} : stepN dr Tryd.prog ⟨d, .makeInterface 62 x, ty, pos, af, g⟩ st id tk K = bindO (st.ev x) fun p => K (st.put d (.iface 62 p)) := s_makeIface Tryd.underlying62 rfl
theorem fa62_0 {K : PV → Prop} : fieldAddrK Tryd.prog st 62 x 0 K = bindO (st.ev x) (fldP 0 K) :=
  fld_ (P := Tryd.prog) (st := st) (x := x) (K := K) (f := 0) Tryd.underlying62 rfl sz5 (by decide)
theorem fi62_0 {K : PV → Prop} : fieldK Tryd.prog st 62 x 0 K = bindO (st.ev x) (fieldP Tryd.prog 5 0 K) :=
  field_ (P := Tryd.prog) (st := st) (x := x) (K := K) (f := 0) Tryd.underlying62 rfl
theorem fa62_1 {K : PV → Prop} : fieldAddrK Tryd.prog st 62 x 1 K = bindO (st.ev x) (fldP 1 K) :=
  fld_ (P := Tryd.prog) (st := st) (x := x) (K := K) (f := 1) Tryd.underlying62 rfl sz2 (by decide)
theorem fi62_1 {K : PV → Prop} : fieldK Tryd.prog st 62 x 1 K = bindO (st.ev x) (fieldP Tryd.prog 2 1 K) :=
  field_ (P := Tryd.prog) (st := st) (x := x) (K := K) (f := 1) Tryd.underlying62 rfl
theorem fa62_2 {K : PV → Prop} : fieldAddrK Tryd.prog st 62 x 2 K = bindO (st.ev x) (fldP 2 K) :=
  fld_ (P := Tryd.prog) (st := st) (x := x) (K := K) (f := 2) Tryd.underlying62 rfl sz9 (by decide)
theorem fi62_2 {K : PV → Prop} : fieldK Tryd.prog st 62 x 2 K = bindO (st.ev x) (fieldP Tryd.prog 9 2 K) :=
  field_ (P := Tryd.prog) (st := st) (x := x) (K := K) (f := 2) Tryd.underlying62 rfl
theorem fa62_3 {K : PV → Prop} : fieldAddrK Tryd.prog st 62 x 3 K = bindO (st.ev x) (fldP 3 K) :=
  fld_ (P := Tryd.prog) (st := st) (x := x) (K := K) (f := 3) Tryd.underlying62 rfl sz50 (by decide)
theorem fi62_3 {K : PV → Prop} : fieldK Tryd.prog st 62 x 3 K = bindO (st.ev x) (fieldP Tryd.prog 50 3 K) :=
  field_ (P := Tryd.prog) (st := st) (x := x) (K := K) (f := 3) Tryd.underlying62 rfl
theorem fa62_4 {K : PV → Prop} : fieldAddrK Tryd.prog st 62 x 4 K = bindO (st.ev x) (fldP 4 K) :=
  fld_ (P := Tryd.prog) (st := st) (x := x) (K := K) (f := 4) Tryd.underlying62 rfl sz27 (by decide)
theorem fi62_4 {K : PV → Prop} : fieldK Tryd.prog st 62 x 4 K = bindO (st.ev x) (fieldP Tryd.prog 27 4 K) :=
  field_ (P := Tryd.prog) (st := st) (x := x) (K := K) (f := 4) Tryd.underlying62 rfl
theorem bld62 {l : List (Nat × Operand)} {K : PV → Prop} : buildK Tryd.prog st 62 l K = bindO (evParts st l) fun ps => (ps.all fun e => match e.2 with | .tup _ => false | _ => true) = true ∧ bindO (fillP (fun i => [(0, 1), (1, 1), (2, 1), (3, 1), (4, 1)][i]?) [.val (.int .u8 0), .val (.int .i64 0), .val (.string ByteArray.empty), .val (.slice none 0 0), .val (.slice none 0 0)] ps) fun cs => K (.agg cs) :=
  buildC Tryd.underlying62 z62 (by kernel_rfl) rfl rfl
-- 63: func(chevalref03.V) int
-- 65: func(chevalref03.V, string, chevalref03.V) (chevalref03.V, bool)
-- 67: func(string) (int, int)
-- 68: func(chevalref03.V) string
-- 69: func([]int) string
-- 70: func([]string, func(string) bool) bool
-- 72: func([]string, string) (int, bool)
-- 73: func([]string, int, ...string) []string
-- 74: func([]value.Value, int, ...value.Value) []value.Value
-- 75: func([]value.Value) []value.Value
-- 76: func(string, int) (int, int)
-- 77: Error
-- 78: error
theorem rdo78 {cs : List PV} {off : Nat} : readCells Tryd.prog 78 cs off = cs[off]? := rd_one ag78
theorem alc78 {K : PS → Prop} : stepN dr Tryd.prog ⟨d, .alloc 78, ty, pos, af, g⟩ st id tk K = K (PS.put { st with heap := (id, .box 78 [.val (.nilIface)]) :: st.heap } d (.ptr id 0)) := s_allocC z78 rfl rfl
theorem ifx78 : (∃ ms, Tryd.prog.underlying 78 = some (.interface ms)) = True := eq_true ⟨_, Tryd.underlying78⟩
-- 79: func(uint8) error
-- 80: func(string, uint8) int
-- 82: func(string) (int, error)
-- 83: *uint8
theorem rdo83 {cs : List PV} {off : Nat} : readCells Tryd.prog 83 cs off = cs[off]? := rd_one ag83
theorem alc83 {K : PS → Prop} : stepN dr Tryd.prog ⟨d, .alloc 83, ty, pos, af, g⟩ st id tk K = K (PS.put { st with heap := (id, .box 83 [.val (.pointer none)]) :: st.heap } d (.ptr id 0)) := s_allocC z83 rfl rfl
theorem mki83 {K : PS → Prop} : stepN dr Tryd.prog ⟨d, .makeInterface 83 x, ty, pos, af, g⟩ st id tk K = bindO (st.ev x) fun p => K (st.put d (.iface 83 p)) := s_makeIface Tryd.underlying83 rfl
-- 84: func(int64) string
-- 85: func(value.Value, int, string, string)
-- 86: func(int32) int
-- 87: func(chevalref03.V, int, int, bool) string
-- 88: func(int) []int
-- 89: func([]string, func(string) bool) int
-- 90: func(string) (int, bool)
-- 91: uint
theorem rdo91 {cs : List PV} {off : Nat} : readCells Tryd.prog 91 cs off = cs[off]? := rd_one ag91
theorem alc91 {K : PS → Prop} : stepN dr Tryd.prog ⟨d, .alloc 91, ty, pos, af, g⟩ st id tk K = K (PS.put { st with heap := (id, .box 91 [.val (.int .u64 0)]) :: st.heap } d (.ptr id 0)) := s_allocC z91 rfl rfl
theorem mki91 {K : PS → Prop} : stepN dr Tryd.prog ⟨d, .makeInterface 91 x, ty, pos, af, g⟩ st id tk K = bindO (st.ev x) fun p => K (st.put d (.iface 91 p)) := s_makeIface Tryd.underlying91 rfl
-- 92: func([]string, []string) bool
-- 93: func([]string, int)
-- 94: func([]value.Value, []value.Value) bool
-- 95: func([]value.Value, int)
-- 96: [5]int
theorem rda96 {cs : List PV} {off : Nat} : readCells Tryd.prog 96 cs off = if off + 5 ≤ cs.length then some (.agg ((cs.drop off).take 5)) else none := rd_agg ag96 sz96
theorem alc96 {K : PS → Prop} : stepN dr Tryd.prog ⟨d, .alloc 96, ty, pos, af, g⟩ st id tk K = K (PS.put { st with heap := (id, .box 96 [.val (.int .i64 0), .val (.int .i64 0), .val (.int .i64 0), .val (.int .i64 0), .val (.int .i64 0)]) :: st.heap } d (.ptr id 0)) := s_allocC z96 rfl rfl
theorem lns96 {K : PV → Prop} : lenK Tryd.prog st 96 x K = K (.val (.int .i64 (5 : Nat))) := len_array Tryd.underlying96
theorem ixs96 {K : PV → Prop} : indexAddrK Tryd.prog st 96 x y K = bindO (st.ev x) fun p => bindO (st.ev y) fun q => intK q fun i => ixA 1 5 i K p := ix_array Tryd.underlying96 sz3
theorem bld96 {l : List (Nat × Operand)} {K : PV → Prop} : buildK Tryd.prog st 96 l K = bindO (evParts st l) fun ps => (ps.all fun e => match e.2 with | .tup _ => false | _ => true) = true ∧ bindO (fillP (fun i => some (i * 1, 1)) [.val (.int .i64 0), .val (.int .i64 0), .val (.int .i64 0), .val (.int .i64 0), .val (.int .i64 0)] ps) fun cs => K (.agg cs) :=
  buildA Tryd.underlying96 z96 sz3 rfl rfl
-- 97: func(int) bool
-- 98: func(int64, int) string
-- 99: func(chevalref02.N) string
-- 100: struct { Below bool; Figures []int }
-- 101: chevalref02.N
theorem rda101 {cs : List PV} {off : Nat} : readCells Tryd.prog 101 cs off = if off + 2 ≤ cs.length then some (.agg ((cs.drop off).take 2)) else none := rd_agg ag101 sz101
theorem alc101 {K : PS → Prop} : stepN dr Tryd.prog ⟨d, .alloc 101, ty, pos, af, g⟩ st id tk K = K (PS.put { st with heap := (id, .box 101 [.val (.bool false), .val (.slice none 0 0)]) :: st.heap } d (.ptr id 0)) := s_allocC z101 rfl rfl
theorem mki101 {K : PS → Prop} : stepN dr Tryd.prog ⟨d, .makeInterface 101 x, ty, pos, af, g⟩ st id tk K = bindO (st.ev x) fun p => K (st.put d (.iface 101 p)) := s_makeIface Tryd.underlying101 rfl
theorem fa101_0 {K : PV → Prop} : fieldAddrK Tryd.prog st 101 x 0 K = bindO (st.ev x) (fldP 0 K) :=
  fld_ (P := Tryd.prog) (st := st) (x := x) (K := K) (f := 0) Tryd.underlying101 rfl sz4 (by decide)
theorem fi101_0 {K : PV → Prop} : fieldK Tryd.prog st 101 x 0 K = bindO (st.ev x) (fieldP Tryd.prog 4 0 K) :=
  field_ (P := Tryd.prog) (st := st) (x := x) (K := K) (f := 0) Tryd.underlying101 rfl
theorem fa101_1 {K : PV → Prop} : fieldAddrK Tryd.prog st 101 x 1 K = bindO (st.ev x) (fldP 1 K) :=
  fld_ (P := Tryd.prog) (st := st) (x := x) (K := K) (f := 1) Tryd.underlying101 rfl sz46 (by decide)
theorem fi101_1 {K : PV → Prop} : fieldK Tryd.prog st 101 x 1 K = bindO (st.ev x) (fieldP Tryd.prog 46 1 K) :=
  field_ (P := Tryd.prog) (st := st) (x := x) (K := K) (f := 1) Tryd.underlying101 rfl
theorem bld101 {l : List (Nat × Operand)} {K : PV → Prop} : buildK Tryd.prog st 101 l K = bindO (evParts st l) fun ps => (ps.all fun e => match e.2 with | .tup _ => false | _ => true) = true ∧ bindO (fillP (fun i => [(0, 1), (1, 1)][i]?) [.val (.bool false), .val (.slice none 0 0)] ps) fun cs => K (.agg cs) :=
  buildC Tryd.underlying101 z101 (by kernel_rfl) rfl rfl
-- 102: func(int64) chevalref02.N
-- 103: func(int, int) string
-- 104: func(string, func(int)) int
-- 106: func(unsafe.Pointer) unsafe.Pointer
-- 107: func([]string)
-- 108: func([]value.Value)
-- 109: func(int) string
-- 110: [24]uint8
theorem rda110 {cs : List PV} {off : Nat} : readCells Tryd.prog 110 cs off = if off + 24 ≤ cs.length then some (.agg ((cs.drop off).take 24)) else none := rd_agg ag110 sz110
theorem alc110 {K : PS → Prop} : stepN dr Tryd.prog ⟨d, .alloc 110, ty, pos, af, g⟩ st id tk K = K (PS.put { st with heap := (id, .box 110 [.val (.int .u8 0), .val (.int .u8 0), .val (.int .u8 0), .val (.int .u8 0), .val (.int .u8 0), .val (.int .u8 0), .val (.int .u8 0), .val (.int .u8 0), .val (.int .u8 0), .val (.int .u8 0), .val (.int .u8 0), .val (.int .u8 0), .val (.int .u8 0), .val (.int .u8 0), .val (.int .u8 0), .val (.int .u8 0), .val (.int .u8 0), .val (.int .u8 0), .val (.int .u8 0), .val (.int .u8 0), .val (.int .u8 0), .val (.int .u8 0), .val (.int .u8 0), .val (.int .u8 0)]) :: st.heap } d (.ptr id 0)) := s_allocC z110 rfl rfl
theorem lns110 {K : PV → Prop} : lenK Tryd.prog st 110 x K = K (.val (.int .i64 (24 : Nat))) := len_array Tryd.underlying110
theorem ixs110 {K : PV → Prop} : indexAddrK Tryd.prog st 110 x y K = bindO (st.ev x) fun p => bindO (st.ev y) fun q => intK q fun i => ixA 1 24 i K p := ix_array Tryd.underlying110 sz5
theorem bld110 {l : List (Nat × Operand)} {K : PV → Prop} : buildK Tryd.prog st 110 l K = bindO (evParts st l) fun ps => (ps.all fun e => match e.2 with | .tup _ => false | _ => true) = true ∧ bindO (fillP (fun i => some (i * 1, 1)) [.val (.int .u8 0), .val (.int .u8 0), .val (.int .u8 0), .val (.int .u8 0), .val (.int .u8 0), .val (.int .u8 0), .val (.int .u8 0), .val (.int .u8 0), .val (.int .u8 0), .val (.int .u8 0), .val (.int .u8 0), .val (.int .u8 0), .val (.int .u8 0), .val (.int .u8 0), .val (.int .u8 0), .val (.int .u8 0), .val (.int .u8 0), .val (.int .u8 0), .val (.int .u8 0), .val (.int .u8 0), .val (.int .u8 0), .val (.int .u8 0), .val (.int .u8 0), .val (.int .u8 0)] ps) fun cs => K (.agg cs) :=
  buildA Tryd.underlying110 z110 sz5 rfl rfl
-- 111: uint64
theorem rdo111 {cs : List PV} {off : Nat} : readCells Tryd.prog 111 cs off = cs[off]? := rd_one ag111
theorem alc111 {K : PS → Prop} : stepN dr Tryd.prog ⟨d, .alloc 111, ty, pos, af, g⟩ st id tk K = K (PS.put { st with heap := (id, .box 111 [.val (.int .u64 0)]) :: st.heap } d (.ptr id 0)) := s_allocC z111 rfl rfl
theorem mki111 {K : PS → Prop} : stepN dr Tryd.prog ⟨d, .makeInterface 111 x, ty, pos, af, g⟩ st id tk K = bindO (st.ev x) fun p => K (st.put d (.iface 111 p)) := s_makeIface Tryd.underlying111 rfl
-- 112: func(uint64) int
-- 113: func([]uint8, uint64)
-- 115: func([]uint8, uint64, int, bool, bool) ([]uint8, string)
-- 116: func(int) int
-- 117: func(bool) int
-- 118: [20]uint64
theorem rda118 {cs : List PV} {off : Nat} : readCells Tryd.prog 118 cs off = if off + 20 ≤ cs.length then some (.agg ((cs.drop off).take 20)) else none := rd_agg ag118 sz118
theorem alc118 {K : PS → Prop} : stepN dr Tryd.prog ⟨d, .alloc 118, ty, pos, af, g⟩ st id tk K = K (PS.put { st with heap := (id, .box 118 [.val (.int .u64 0), .val (.int .u64 0), .val (.int .u64 0), .val (.int .u64 0), .val (.int .u64 0), .val (.int .u64 0), .val (.int .u64 0), .val (.int .u64 0), .val (.int .u64 0), .val (.int .u64 0), .val (.int .u64 0), .val (.int .u64 0), .val (.int .u64 0), .val (.int .u64 0), .val (.int .u64 0), .val (.int .u64 0), .val (.int .u64 0), .val (.int .u64 0), .val (.int .u64 0), .val (.int .u64 0)]) :: st.heap } d (.ptr id 0)) := s_allocC z118 rfl rfl
theorem lns118 {K : PV → Prop} : lenK Tryd.prog st 118 x K = K (.val (.int .i64 (20 : Nat))) := len_array Tryd.underlying118
theorem ixs118 {K : PV → Prop} : indexAddrK Tryd.prog st 118 x y K = bindO (st.ev x) fun p => bindO (st.ev y) fun q => intK q fun i => ixA 1 20 i K p := ix_array Tryd.underlying118 sz111
theorem bld118 {l : List (Nat × Operand)} {K : PV → Prop} : buildK Tryd.prog st 118 l K = bindO (evParts st l) fun ps => (ps.all fun e => match e.2 with | .tup _ => false | _ => true) = true ∧ bindO (fillP (fun i => some (i * 1, 1)) [.val (.int .u64 0), .val (.int .u64 0), .val (.int .u64 0), .val (.int .u64 0), .val (.int .u64 0), .val (.int .u64 0), .val (.int .u64 0), .val (.int .u64 0), .val (.int .u64 0), .val (.int .u64 0), .val (.int .u64 0), .val (.int .u64 0), .val (.int .u64 0), .val (.int .u64 0), .val (.int .u64 0), .val (.int .u64 0), .val (.int .u64 0), .val (.int .u64 0), .val (.int .u64 0), .val (.int .u64 0)] ps) fun cs => K (.agg cs) :=
  buildA Tryd.underlying118 z118 sz111 rfl rfl
-- 119: uint32
theorem rdo119 {cs : List PV} {off : Nat} : readCells Tryd.prog 119 cs off = cs[off]? := rd_one ag119
theorem alc119 {K : PS → Prop} : stepN dr Tryd.prog ⟨d, .alloc 119, ty, pos, af, g⟩ st id tk K = K (PS.put { st with heap := (id, .box 119 [.val (.int .u32 0)]) :: st.heap } d (.ptr id 0)) := s_allocC z119 rfl rfl
theorem mki119 {K : PS → Prop} : stepN dr Tryd.prog ⟨d, .makeInterface 119 x, ty, pos, af, g⟩ st id tk K = bindO (st.ev x) fun p => K (st.put d (.iface 119 p)) := s_makeIface Tryd.underlying119 rfl
-- 121: func(uint) int
-- 122: func(uint32) int
-- 123: [32]uint8
theorem rda123 {cs : List PV} {off : Nat} : readCells Tryd.prog 123 cs off = if off + 32 ≤ cs.length then some (.agg ((cs.drop off).take 32)) else none := rd_agg ag123 sz123
theorem alc123 {K : PS → Prop} : stepN dr Tryd.prog ⟨d, .alloc 123, ty, pos, af, g⟩ st id tk K = K (PS.put { st with heap := (id, .box 123 [.val (.int .u8 0), .val (.int .u8 0), .val (.int .u8 0), .val (.int .u8 0), .val (.int .u8 0), .val (.int .u8 0), .val (.int .u8 0), .val (.int .u8 0), .val (.int .u8 0), .val (.int .u8 0), .val (.int .u8 0), .val (.int .u8 0), .val (.int .u8 0), .val (.int .u8 0), .val (.int .u8 0), .val (.int .u8 0), .val (.int .u8 0), .val (.int .u8 0), .val (.int .u8 0), .val (.int .u8 0), .val (.int .u8 0), .val (.int .u8 0), .val (.int .u8 0), .val (.int .u8 0), .val (.int .u8 0), .val (.int .u8 0), .val (.int .u8 0), .val (.int .u8 0), .val (.int .u8 0), .val (.int .u8 0), .val (.int .u8 0), .val (.int .u8 0)]) :: st.heap } d (.ptr id 0)) := s_allocC z123 rfl rfl
theorem lns123 {K : PV → Prop} : lenK Tryd.prog st 123 x K = K (.val (.int .i64 (32 : Nat))) := len_array Tryd.underlying123
theorem ixs123 {K : PV → Prop} : indexAddrK Tryd.prog st 123 x y K = bindO (st.ev x) fun p => bindO (st.ev y) fun q => intK q fun i => ixA 1 32 i K p := ix_array Tryd.underlying123 sz5
theorem bld123 {l : List (Nat × Operand)} {K : PV → Prop} : buildK Tryd.prog st 123 l K = bindO (evParts st l) fun ps => (ps.all fun e => match e.2 with | .tup _ => false | _ => true) = true ∧ bindO (fillP (fun i => some (i * 1, 1)) [.val (.int .u8 0), .val (.int .u8 0), .val (.int .u8 0), .val (.int .u8 0), .val (.int .u8 0), .val (.int .u8 0), .val (.int .u8 0), .val (.int .u8 0), .val (.int .u8 0), .val (.int .u8 0), .val (.int .u8 0), .val (.int .u8 0), .val (.int .u8 0), .val (.int .u8 0), .val (.int .u8 0), .val (.int .u8 0), .val (.int .u8 0), .val (.int .u8 0), .val (.int .u8 0), .val (.int .u8 0), .val (.int .u8 0), .val (.int .u8 0), .val (.int .u8 0), .val (.int .u8 0), .val (.int .u8 0), .val (.int .u8 0), .val (.int .u8 0), .val (.int .u8 0), .val (.int .u8 0), .val (.int .u8 0), .val (.int .u8 0), .val (.int .u8 0)] ps) fun cs => K (.agg cs) :=
  buildA Tryd.underlying123 z123 sz5 rfl rfl
-- 124: [64]uint8
theorem rda124 {cs : List PV} {off : Nat} : readCells Tryd.prog 124 cs off = if off + 64 ≤ cs.length then some (.agg ((cs.drop off).take 64)) else none := rd_agg ag124 sz124
theorem alc124 {K : PS → Prop} : stepN dr Tryd.prog ⟨d, .alloc 124, ty, pos, af, g⟩ st id tk K = K (PS.put { st with heap := (id, .box 124 [.val (.int .u8 0), .val (.int .u8 0), .val (.int .u8 0), .val (.int .u8 0), .val (.int .u8 0), .val (.int .u8 0), .val (.int .u8 0), .val (.int .u8 0), .val (.int .u8 0), .val (.int .u8 0), .val (.int .u8 0), .val (.int .u8 0), .val (.int .u8 0), .val (.int .u8 0), .val (.int .u8 0), .val (.int .u8 0), .val (.int .u8 0), .val (.int .u8 0), .val (.int .u8 0), .val (.int .u8 0), .val (.int .u8 0), .val (.int .u8 0), .val (.int .u8 0), .val (.int .u8 0), .val (.int .u8 0), .val (.int .u8 0), .val (.int .u8 0), .val (.int .u8 0), .val (.int .u8 0), .val (.int .u8 0), .val (.int .u8 0), .val (.int .u8 0), .val (.int .u8 0), .val (.int .u8 0), .val (.int .u8 0), .val (.int .u8 0), .val (.int .u8 0), .val (.int .u8 0), .val (.int .u8 0), .val (.int .u8 0), .val (.int .u8 0), .val (.int .u8 0), .val (.int .u8 0), .val (.int .u8 0), .val (.int .u8 0), .val (.int .u8 0), .val (.int .u8 0), .val (.int .u8 0), .val (.int .u8 0), .val (.int .u8 0), .val (.int .u8 0), .val (.int .u8 0), .val (.int .u8 0), .val (.int .u8 0), .val (.int .u8 0), .val (.int .u8 0), .val (.int .u8 0), .val (.int .u8 0), .val (.int .u8 0), .val (.int .u8 0), .val (.int .u8 0), .val (.int .u8 0), .val (.int .u8 0), .val (.int .u8 0)]) :: st.heap } d (.ptr id 0)) := s_allocC z124 rfl rfl
theorem lns124 {K : PV → Prop} : lenK Tryd.prog st 124 x K = K (.val (.int .i64 (64 : Nat))) := len_array Tryd.underlying124
theorem ixs124 {K : PV → Prop} : indexAddrK Tryd.prog st 124 x y K = bindO (st.ev x) fun p => bindO (st.ev y) fun q => intK q fun i => ixA 1 64 i K p := ix_array Tryd.underlying124 sz5
theorem bld124 {l : List (Nat × Operand)} {K : PV → Prop} : buildK Tryd.prog st 124 l K = bindO (evParts st l) fun ps => (ps.all fun e => match e.2 with | .tup _ => false | _ => true) = true ∧ bindO (fillP (fun i => some (i * 1, 1)) [.val (.int .u8 0), .val (.int .u8 0), .val (.int .u8 0), .val (.int .u8 0), .val (.int .u8 0), .val (.int .u8 0), .val (.int .u8 0), .val (.int .u8 0), .val (.int .u8 0), .val (.int .u8 0), .val (.int .u8 0), .val (.int .u8 0), .val (.int .u8 0), .val (.int .u8 0), .val (.int .u8 0), .val (.int .u8 0), .val (.int .u8 0), .val (.int .u8 0), .val (.int .u8 0), .val (.int .u8 0), .val (.int .u8 0), .val (.int .u8 0), .val (.int .u8 0), .val (.int .u8 0), .val (.int .u8 0), .val (.int .u8 0), .val (.int .u8 0), .val (.int .u8 0), .val (.int .u8 0), .val (.int .u8 0), .val (.int .u8 0), .val (.int .u8 0), .val (.int .u8 0), .val (.int .u8 0), .val (.int .u8 0), .val (.int .u8 0), .val (.int .u8 0), .val (.int .u8 0), .val (.int .u8 0), .val (.int .u8 0), .val (.int .u8 0), .val (.int .u8 0), .val (.int .u8 0), .val (.int .u8 0), .val (.int .u8 0), .val (.int .u8 0), .val (.int .u8 0), .val (.int .u8 0), .val (.int .u8 0), .val (.int .u8 0), .val (.int .u8 0), .val (.int .u8 0), .val (.int .u8 0), .val (.int .u8 0), .val (.int .u8 0), .val (.int .u8 0), .val (.int .u8 0), .val (.int .u8 0), .val (.int .u8 0), .val (.int .u8 0), .val (.int .u8 0), .val (.int .u8 0), .val (.int .u8 0), .val (.int .u8 0)] ps) fun cs => K (.agg cs) :=
  buildA Tryd.underlying124 z124 sz5 rfl rfl
-- 127: [0]*runtime.PanicNilError
-- 128: struct { _ [0]*runtime.PanicNilError }
-- 130: func() int
-- 133: func(unsafe.Pointer, unsafe.Pointer) bool
attribute [go_sem ↓] alc2 mki2 alc3 mki3 alc4 alc5 mki5 alc9 mki9 rng9 lns9 ixs9 sls9 alc20 alc21 mki21 alc26 lns26 ixs26 sls26 app26 bs26 mks26 alc27 lns27 ixs27 sls27 app27 bs27 mks27 alc29 mki29 fa29_0 fi29_0 fa29_1 fi29_1 fa29_2 fi29_2 fa29_3 fi29_3 fa29_4 fi29_4 fa29_5 fi29_5 bld29 alc32 lns32 ixs32 sls32 app32 bs32 mks32 alc33 lns33 ixs33 sls33 app33 bs33 mks33 alc35 mki35 fa35_0 fi35_0 fa35_1 fi35_1 fa35_2 fi35_2 fa35_3 fi35_3 fa35_4 fi35_4 fa35_5 fi35_5 bld35 alc41 mki41 alc46 lns46 ixs46 sls46 app46 bs46 mks46 alc49 mki49 alc50 lns50 ixs50 sls50 aps50 cvr50 app50 bs50 mks50 alc52 mki52 fa52_0 fi52_0 fa52_1 fi52_1 bld52 alc55 mki55 fa55_0 fi55_0 fa55_1 fi55_1 fa55_2 fi55_2 fa55_3 fi55_3 bld55 alc58 mki58 alc62 mki62 fa62_0 fi62_0 fa62_1 fi62_1 fa62_2 fi62_2 fa62_3 fi62_3 fa62_4 fi62_4 bld62 alc78 alc83 mki83 alc91 mki91 alc96 lns96 ixs96 bld96 alc101 mki101 fa101_0 fi101_0 fa101_1 fi101_1 bld101 alc110 lns110 ixs110 bld110 alc111 mki111 alc118 lns118 ixs118 bld118 alc119 mki119 alc123 lns123 ixs123 bld123 alc124 lns124 ixs124 bld124
attribute [go_sem] rdo1 sz1 rdo2 sz2 Tryd.underlying2 rdo3 sz3 Tryd.underlying3 rdo4 sz4 Tryd.underlying4 rdo5 sz5 Tryd.underlying5 rdo9 sz9 Tryd.underlying9 rdo20 sz20 ifx20 rdo21 sz21 Tryd.underlying21 rdo23 sz23 rdo26 sz26 rdo27 sz27 rda29 sz29 rdo32 sz32 rdo33 sz33 rda35 sz35 rdo41 sz41 Tryd.underlying41 rdo46 sz46 rdo49 sz49 rdo50 sz50 isb50 Tryd.underlying50 rda52 sz52 rdo53 sz53 rda55 sz55 rdo58 sz58 rdo59 sz59 rda62 sz62 rdo78 sz78 ifx78 rdo83 sz83 rdo91 sz91 Tryd.underlying91 rda96 sz96 rda101 sz101 rda110 sz110 rdo111 sz111 Tryd.underlying111 rda118 sz118 rdo119 sz119 Tryd.underlying119 rda123 sz123 rda124 sz124
end Go.Proofs.YtmfaejdnaippkaaDoor
