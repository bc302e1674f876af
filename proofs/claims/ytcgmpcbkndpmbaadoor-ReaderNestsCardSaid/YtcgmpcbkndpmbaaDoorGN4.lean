/-
  Contracts and plain laws on the way to the statement; each says its own conditions.
-/
import Derived.Test.YtcgmpcbkndpmbaaDoorProg
import Derived.Test.YtcgmpcbkndpmbaaDoorGN3
import Derived.Shelf.RegionOpenPlain
import Derived.Lib.Strings
import Derived.Lib.Slices
import Derived.Lib.Walk
import Derived.Lib.Builder
import Derived.Lib.AppendStr
import Derived.Lib.UnsafeStr
import Derived.WalkKit
import Derived.Laws.Externs
section
namespace Go.Proofs.YtcgmpcbkndpmbaaDoor
open Go Go.Pw
set_option linter.unusedVariables false
variable {dr : Bool} {st : PS} {id tk : Nat} {d : Option Tmp} {ty : TypeId} {pos : String} {af : Array Edge} {g : Option (Nat × Bool)} {x y : Operand}
set_option maxRecDepth 4000
theorem z1 : zeroOf? Tryd.prog 1 = some (.nilFunc) := by kernel_rfl
theorem ag2 : aggT Tryd.prog 2 = some false := by kernel_rfl
theorem sz2 : sizeOf? Tryd.prog 2 = some 1 := by kernel_rfl
theorem z2 : zeroOf? Tryd.prog 2 = some (.int .i64 0) := by kernel_rfl
theorem by2 : bytesOf? Tryd.prog 2 = some 8 := by kernel_rfl
theorem ag3 : aggT Tryd.prog 3 = some false := by kernel_rfl
theorem sz3 : sizeOf? Tryd.prog 3 = some 1 := by kernel_rfl
theorem z3 : zeroOf? Tryd.prog 3 = some (.int .i64 0) := by kernel_rfl
theorem by3 : bytesOf? Tryd.prog 3 = some 8 := by kernel_rfl
theorem ag4 : aggT Tryd.prog 4 = some false := by kernel_rfl
theorem sz4 : sizeOf? Tryd.prog 4 = some 1 := by kernel_rfl
theorem z4 : zeroOf? Tryd.prog 4 = some (.bool false) := by kernel_rfl
theorem by4 : bytesOf? Tryd.prog 4 = some 1 := by kernel_rfl
theorem ag5 : aggT Tryd.prog 5 = some false := by kernel_rfl
theorem sz5 : sizeOf? Tryd.prog 5 = some 1 := by kernel_rfl
theorem z5 : zeroOf? Tryd.prog 5 = some (.int .u8 0) := by kernel_rfl
theorem by5 : bytesOf? Tryd.prog 5 = some 1 := by kernel_rfl
theorem ag9 : aggT Tryd.prog 9 = some false := by kernel_rfl
theorem sz9 : sizeOf? Tryd.prog 9 = some 1 := by kernel_rfl
theorem z9 : zeroOf? Tryd.prog 9 = some (.string ByteArray.empty) := by kernel_rfl
theorem by9 : bytesOf? Tryd.prog 9 = some 16 := by kernel_rfl
theorem ag20 : aggT Tryd.prog 20 = some false := by kernel_rfl
theorem sz20 : sizeOf? Tryd.prog 20 = some 1 := by kernel_rfl
theorem z20 : zeroOf? Tryd.prog 20 = some (.nilIface) := by kernel_rfl
theorem ag21 : aggT Tryd.prog 21 = some false := by kernel_rfl
theorem sz21 : sizeOf? Tryd.prog 21 = some 1 := by kernel_rfl
theorem z21 : zeroOf? Tryd.prog 21 = some (.int .i32 0) := by kernel_rfl
theorem by21 : bytesOf? Tryd.prog 21 = some 4 := by kernel_rfl
theorem ag23 : aggT Tryd.prog 23 = some false := by kernel_rfl
theorem sz23 : sizeOf? Tryd.prog 23 = some 1 := by kernel_rfl
theorem z23 : zeroOf? Tryd.prog 23 = some (.slice none 0 0) := by kernel_rfl
theorem by23 : bytesOf? Tryd.prog 23 = some 24 := by kernel_rfl
theorem ag24 : aggT Tryd.prog 24 = some false := by kernel_rfl
theorem sz24 : sizeOf? Tryd.prog 24 = some 1 := by kernel_rfl
theorem z24 : zeroOf? Tryd.prog 24 = some (.slice none 0 0) := by kernel_rfl
theorem by24 : bytesOf? Tryd.prog 24 = some 24 := by kernel_rfl
theorem ag26 : aggT Tryd.prog 26 = some true := by kernel_rfl
theorem sz26 : sizeOf? Tryd.prog 26 = some 6 := by kernel_rfl
theorem z26 : zeroOf? Tryd.prog 26 = some (.agg #[.int .i64 0, .bool false, .int .i64 0, .string ByteArray.empty, .slice none 0 0, .slice none 0 0]) := by kernel_rfl
theorem by26 : bytesOf? Tryd.prog 26 = some 88 := by kernel_rfl
theorem ag27 : aggT Tryd.prog 27 = some false := by kernel_rfl
theorem sz27 : sizeOf? Tryd.prog 27 = some 1 := by kernel_rfl
theorem z27 : zeroOf? Tryd.prog 27 = some (.int .i64 0) := by kernel_rfl
theorem by27 : bytesOf? Tryd.prog 27 = some 8 := by kernel_rfl
theorem ag31 : aggT Tryd.prog 31 = some false := by kernel_rfl
theorem sz31 : sizeOf? Tryd.prog 31 = some 1 := by kernel_rfl
theorem z31 : zeroOf? Tryd.prog 31 = some (.slice none 0 0) := by kernel_rfl
theorem by31 : bytesOf? Tryd.prog 31 = some 24 := by kernel_rfl
theorem ag33 : aggT Tryd.prog 33 = some true := by kernel_rfl
theorem sz33 : sizeOf? Tryd.prog 33 = some 6 := by kernel_rfl
theorem z33 : zeroOf? Tryd.prog 33 = some (.agg #[.int .i64 0, .bool false, .int .i64 0, .string ByteArray.empty, .slice none 0 0, .slice none 0 0]) := by kernel_rfl
theorem by33 : bytesOf? Tryd.prog 33 = some 88 := by kernel_rfl
theorem ag36 : aggT Tryd.prog 36 = some false := by kernel_rfl
theorem sz36 : sizeOf? Tryd.prog 36 = some 1 := by kernel_rfl
theorem z36 : zeroOf? Tryd.prog 36 = some (.pointer none) := by kernel_rfl
theorem by36 : bytesOf? Tryd.prog 36 = some 8 := by kernel_rfl
theorem ag37 : aggT Tryd.prog 37 = some false := by kernel_rfl
theorem sz37 : sizeOf? Tryd.prog 37 = some 1 := by kernel_rfl
theorem z37 : zeroOf? Tryd.prog 37 = some (.pointer none) := by kernel_rfl
theorem by37 : bytesOf? Tryd.prog 37 = some 8 := by kernel_rfl
theorem ag40 : aggT Tryd.prog 40 = some true := by kernel_rfl
theorem sz40 : sizeOf? Tryd.prog 40 = some 5 := by kernel_rfl
theorem z40 : zeroOf? Tryd.prog 40 = some (.agg #[.int .i64 0, .string ByteArray.empty, .int .i64 0, .int .i64 0, .int .i64 0]) := by kernel_rfl
theorem by40 : bytesOf? Tryd.prog 40 = some 48 := by kernel_rfl
theorem ag42 : aggT Tryd.prog 42 = some true := by kernel_rfl
theorem sz42 : sizeOf? Tryd.prog 42 = some 9 := by kernel_rfl
theorem z42 : zeroOf? Tryd.prog 42 = some (.agg #[.pointer none, .int .i64 0, .string ByteArray.empty, .int .i64 0, .int .i64 0, .int .i64 0, .int .i64 0, .int .i64 0, .int .i64 0]) := by kernel_rfl
theorem by42 : bytesOf? Tryd.prog 42 = some 80 := by kernel_rfl
theorem z46 : zeroOf? Tryd.prog 46 = some (.agg #[.string ByteArray.empty, .int .i64 0]) := by kernel_rfl
theorem ag47 : aggT Tryd.prog 47 = some true := by kernel_rfl
theorem sz47 : sizeOf? Tryd.prog 47 = some 2 := by kernel_rfl
theorem z47 : zeroOf? Tryd.prog 47 = some (.agg #[.string ByteArray.empty, .int .i64 0]) := by kernel_rfl
theorem by47 : bytesOf? Tryd.prog 47 = some 24 := by kernel_rfl
theorem ag50 : aggT Tryd.prog 50 = some false := by kernel_rfl
theorem sz50 : sizeOf? Tryd.prog 50 = some 1 := by kernel_rfl
theorem z50 : zeroOf? Tryd.prog 50 = some (.nilFunc) := by kernel_rfl
theorem z51 : zeroOf? Tryd.prog 51 = some (.nilFunc) := by kernel_rfl
theorem z53 : zeroOf? Tryd.prog 53 = some (.nilFunc) := by kernel_rfl
theorem ag55 : aggT Tryd.prog 55 = some false := by kernel_rfl
theorem sz55 : sizeOf? Tryd.prog 55 = some 1 := by kernel_rfl
theorem z55 : zeroOf? Tryd.prog 55 = some (.nilFunc) := by kernel_rfl
theorem ag57 : aggT Tryd.prog 57 = some false := by kernel_rfl
theorem sz57 : sizeOf? Tryd.prog 57 = some 1 := by kernel_rfl
theorem z57 : zeroOf? Tryd.prog 57 = some (.pointer none) := by kernel_rfl
theorem by57 : bytesOf? Tryd.prog 57 = some 8 := by kernel_rfl
theorem ag58 : aggT Tryd.prog 58 = some false := by kernel_rfl
theorem sz58 : sizeOf? Tryd.prog 58 = some 1 := by kernel_rfl
theorem z58 : zeroOf? Tryd.prog 58 = some (.nilFunc) := by kernel_rfl
theorem ag59 : aggT Tryd.prog 59 = some false := by kernel_rfl
theorem sz59 : sizeOf? Tryd.prog 59 = some 1 := by kernel_rfl
theorem z59 : zeroOf? Tryd.prog 59 = some (.pointer none) := by kernel_rfl
theorem by59 : bytesOf? Tryd.prog 59 = some 8 := by kernel_rfl
theorem ag60 : aggT Tryd.prog 60 = some false := by kernel_rfl
theorem sz60 : sizeOf? Tryd.prog 60 = some 1 := by kernel_rfl
theorem z60 : zeroOf? Tryd.prog 60 = some (.pointer none) := by kernel_rfl
theorem by60 : bytesOf? Tryd.prog 60 = some 8 := by kernel_rfl
theorem ag64 : aggT Tryd.prog 64 = some false := by kernel_rfl
theorem sz64 : sizeOf? Tryd.prog 64 = some 1 := by kernel_rfl
theorem z64 : zeroOf? Tryd.prog 64 = some (.pointer none) := by kernel_rfl
theorem by64 : bytesOf? Tryd.prog 64 = some 8 := by kernel_rfl
theorem ag65 : aggT Tryd.prog 65 = some false := by kernel_rfl
theorem sz65 : sizeOf? Tryd.prog 65 = some 1 := by kernel_rfl
theorem z65 : zeroOf? Tryd.prog 65 = some (.slice none 0 0) := by kernel_rfl
theorem by65 : bytesOf? Tryd.prog 65 = some 24 := by kernel_rfl
theorem ag67 : aggT Tryd.prog 67 = some true := by kernel_rfl
theorem sz67 : sizeOf? Tryd.prog 67 = some 2 := by kernel_rfl
theorem z67 : zeroOf? Tryd.prog 67 = some (.agg #[.pointer none, .slice none 0 0]) := by kernel_rfl
theorem by67 : bytesOf? Tryd.prog 67 = some 32 := by kernel_rfl
theorem ag71 : aggT Tryd.prog 71 = some false := by kernel_rfl
theorem sz71 : sizeOf? Tryd.prog 71 = some 1 := by kernel_rfl
theorem z71 : zeroOf? Tryd.prog 71 = some (.nilIface) := by kernel_rfl
theorem by71 : bytesOf? Tryd.prog 71 = some 16 := by kernel_rfl
theorem z80 : zeroOf? Tryd.prog 80 = some (.nilFunc) := by kernel_rfl
theorem z85 : zeroOf? Tryd.prog 85 = some (.nilFunc) := by kernel_rfl
theorem ag90 : aggT Tryd.prog 90 = some false := by kernel_rfl
theorem sz90 : sizeOf? Tryd.prog 90 = some 1 := by kernel_rfl
theorem z90 : zeroOf? Tryd.prog 90 = some (.pointer none) := by kernel_rfl
theorem by90 : bytesOf? Tryd.prog 90 = some 8 := by kernel_rfl
theorem ag95 : aggT Tryd.prog 95 = some false := by kernel_rfl
theorem sz95 : sizeOf? Tryd.prog 95 = some 1 := by kernel_rfl
theorem z95 : zeroOf? Tryd.prog 95 = some (.int .u64 0) := by kernel_rfl
theorem by95 : bytesOf? Tryd.prog 95 = some 8 := by kernel_rfl
theorem ag105 : aggT Tryd.prog 105 = some false := by kernel_rfl
theorem sz105 : sizeOf? Tryd.prog 105 = some 1 := by kernel_rfl
theorem z105 : zeroOf? Tryd.prog 105 = some (.nilFunc) := by kernel_rfl
theorem ag106 : aggT Tryd.prog 106 = some false := by kernel_rfl
theorem sz106 : sizeOf? Tryd.prog 106 = some 1 := by kernel_rfl
theorem z106 : zeroOf? Tryd.prog 106 = some (.int .i64 0) := by kernel_rfl
theorem by106 : bytesOf? Tryd.prog 106 = some 8 := by kernel_rfl
theorem ag107 : aggT Tryd.prog 107 = some false := by kernel_rfl
theorem sz107 : sizeOf? Tryd.prog 107 = some 1 := by kernel_rfl
theorem z107 : zeroOf? Tryd.prog 107 = some (.int .u64 0) := by kernel_rfl
theorem by107 : bytesOf? Tryd.prog 107 = some 8 := by kernel_rfl
theorem ag110 : aggT Tryd.prog 110 = some false := by kernel_rfl
theorem sz110 : sizeOf? Tryd.prog 110 = some 1 := by kernel_rfl
theorem z110 : zeroOf? Tryd.prog 110 = some (.pointer none) := by kernel_rfl
theorem by110 : bytesOf? Tryd.prog 110 = some 8 := by kernel_rfl
theorem ag118 : aggT Tryd.prog 118 = some true := by kernel_rfl
theorem sz118 : sizeOf? Tryd.prog 118 = some 3 := by kernel_rfl
theorem z118 : zeroOf? Tryd.prog 118 = some (.agg #[.string ByteArray.empty, .string ByteArray.empty, .nilIface]) := by kernel_rfl
theorem by118 : bytesOf? Tryd.prog 118 = some 48 := by kernel_rfl
theorem ag120 : aggT Tryd.prog 120 = some false := by kernel_rfl
theorem sz120 : sizeOf? Tryd.prog 120 = some 1 := by kernel_rfl
theorem z120 : zeroOf? Tryd.prog 120 = some (.pointer none) := by kernel_rfl
theorem by120 : bytesOf? Tryd.prog 120 = some 8 := by kernel_rfl
theorem ag122 : aggT Tryd.prog 122 = some true := by kernel_rfl
theorem sz122 : sizeOf? Tryd.prog 122 = some 1 := by kernel_rfl
theorem z122 : zeroOf? Tryd.prog 122 = some (.agg #[.string ByteArray.empty]) := by kernel_rfl
theorem by122 : bytesOf? Tryd.prog 122 = some 16 := by kernel_rfl
theorem ag124 : aggT Tryd.prog 124 = some true := by kernel_rfl
theorem sz124 : sizeOf? Tryd.prog 124 = some 24 := by kernel_rfl
theorem z124 : zeroOf? Tryd.prog 124 = some (.agg #[.int .u8 0, .int .u8 0, .int .u8 0, .int .u8 0, .int .u8 0, .int .u8 0, .int .u8 0, .int .u8 0, .int .u8 0, .int .u8 0, .int .u8 0, .int .u8 0, .int .u8 0, .int .u8 0, .int .u8 0, .int .u8 0, .int .u8 0, .int .u8 0, .int .u8 0, .int .u8 0, .int .u8 0, .int .u8 0, .int .u8 0, .int .u8 0]) := by kernel_rfl
theorem by124 : bytesOf? Tryd.prog 124 = some 24 := by kernel_rfl
theorem ag131 : aggT Tryd.prog 131 = some true := by kernel_rfl
theorem sz131 : sizeOf? Tryd.prog 131 = some 20 := by kernel_rfl
theorem z131 : zeroOf? Tryd.prog 131 = some (.agg #[.int .u64 0, .int .u64 0, .int .u64 0, .int .u64 0, .int .u64 0, .int .u64 0, .int .u64 0, .int .u64 0, .int .u64 0, .int .u64 0, .int .u64 0, .int .u64 0, .int .u64 0, .int .u64 0, .int .u64 0, .int .u64 0, .int .u64 0, .int .u64 0, .int .u64 0, .int .u64 0]) := by kernel_rfl
theorem by131 : bytesOf? Tryd.prog 131 = some 160 := by kernel_rfl
theorem ag132 : aggT Tryd.prog 132 = some false := by kernel_rfl
theorem sz132 : sizeOf? Tryd.prog 132 = some 1 := by kernel_rfl
theorem z132 : zeroOf? Tryd.prog 132 = some (.int .u32 0) := by kernel_rfl
theorem by132 : bytesOf? Tryd.prog 132 = some 4 := by kernel_rfl
theorem ag136 : aggT Tryd.prog 136 = some true := by kernel_rfl
theorem sz136 : sizeOf? Tryd.prog 136 = some 32 := by kernel_rfl
theorem z136 : zeroOf? Tryd.prog 136 = some (.agg #[.int .u8 0, .int .u8 0, .int .u8 0, .int .u8 0, .int .u8 0, .int .u8 0, .int .u8 0, .int .u8 0, .int .u8 0, .int .u8 0, .int .u8 0, .int .u8 0, .int .u8 0, .int .u8 0, .int .u8 0, .int .u8 0, .int .u8 0, .int .u8 0, .int .u8 0, .int .u8 0, .int .u8 0, .int .u8 0, .int .u8 0, .int .u8 0, .int .u8 0, .int .u8 0, .int .u8 0, .int .u8 0, .int .u8 0, .int .u8 0, .int .u8 0, .int .u8 0]) := by kernel_rfl
theorem by136 : bytesOf? Tryd.prog 136 = some 32 := by kernel_rfl
theorem ag137 : aggT Tryd.prog 137 = some true := by kernel_rfl
theorem sz137 : sizeOf? Tryd.prog 137 = some 64 := by kernel_rfl
theorem z137 : zeroOf? Tryd.prog 137 = some (.agg #[.int .u8 0, .int .u8 0, .int .u8 0, .int .u8 0, .int .u8 0, .int .u8 0, .int .u8 0, .int .u8 0, .int .u8 0, .int .u8 0, .int .u8 0, .int .u8 0, .int .u8 0, .int .u8 0, .int .u8 0, .int .u8 0, .int .u8 0, .int .u8 0, .int .u8 0, .int .u8 0, .int .u8 0, .int .u8 0, .int .u8 0, .int .u8 0, .int .u8 0, .int .u8 0, .int .u8 0, .int .u8 0, .int .u8 0, .int .u8 0, .int .u8 0, .int .u8 0, .int .u8 0, .int .u8 0, .int .u8 0, .int .u8 0, .int .u8 0, .int .u8 0, .int .u8 0, .int .u8 0, .int .u8 0, .int .u8 0, .int .u8 0, .int .u8 0, .int .u8 0, .int .u8 0, .int .u8 0, .int .u8 0, .int .u8 0, .int .u8 0, .int .u8 0, .int .u8 0, .int .u8 0, .int .u8 0, .int .u8 0, .int .u8 0, .int .u8 0, .int .u8 0, .int .u8 0, .int .u8 0, .int .u8 0, .int .u8 0, .int .u8 0, .int .u8 0]) := by kernel_rfl
theorem by137 : bytesOf? Tryd.prog 137 = some 64 := by kernel_rfl
theorem z143 : zeroOf? Tryd.prog 143 = some (.nilFunc) := by kernel_rfl
theorem rdo2 {cs : List PV} {off : Nat} : readCells Tryd.prog 2 cs off = cs[off]? := rd_one ag2
theorem rdo3 {cs : List PV} {off : Nat} : readCells Tryd.prog 3 cs off = cs[off]? := rd_one ag3
theorem rdo4 {cs : List PV} {off : Nat} : readCells Tryd.prog 4 cs off = cs[off]? := rd_one ag4
theorem rdo5 {cs : List PV} {off : Nat} : readCells Tryd.prog 5 cs off = cs[off]? := rd_one ag5
theorem rdo9 {cs : List PV} {off : Nat} : readCells Tryd.prog 9 cs off = cs[off]? := rd_one ag9
theorem mki9 {K : PS -> Prop} : stepN dr Tryd.prog ⟨d, .makeInterface 9 x, ty, pos, af, g⟩ st id tk K = bindO (st.ev x) fun p => K (st.put d (.iface 9 p)) := s_makeIface Tryd.underlying9 rfl
theorem rng9 {K : PS -> Prop} : stepN dr Tryd.prog ⟨d, .range 9 x, ty, pos, af, g⟩ st id tk K = bindO (st.ev x) (rngP id d st K) := s_range Tryd.underlying9
theorem lns9 {K : PV -> Prop} : lenK Tryd.prog st 9 x K = bindO (st.ev x) (lenS K) := len_string Tryd.underlying9
theorem ixs9 {K : PV -> Prop} : indexK Tryd.prog st 9 x y K = bindO (st.ev x) fun p => bindO (st.ev y) fun q => intK q fun i => ixS i K p := ix_string Tryd.underlying9
theorem sls9 {lo hi : Option Operand} {K : PV -> Prop} : sliceK Tryd.prog st 9 x lo hi K = bindO (st.ev x) (slcS st lo hi K) := slc_string Tryd.underlying9
theorem rdo20 {cs : List PV} {off : Nat} : readCells Tryd.prog 20 cs off = cs[off]? := rd_one ag20
theorem ifx20 : (∃ ms, Tryd.prog.underlying 20 = some (.interface ms)) = True := eq_true ⟨_, Tryd.underlying20⟩
theorem rdo21 {cs : List PV} {off : Nat} : readCells Tryd.prog 21 cs off = cs[off]? := rd_one ag21
theorem rdo23 {cs : List PV} {off : Nat} : readCells Tryd.prog 23 cs off = cs[off]? := rd_one ag23
theorem lns23 {K : PV -> Prop} : lenK Tryd.prog st 23 x K = bindO (st.ev x) (lenP K) := len_slice Tryd.underlying23
theorem ixs23 {K : PV -> Prop} : indexAddrK Tryd.prog st 23 x y K = bindO (st.ev x) fun p => bindO (st.ev y) fun q => intK q fun i => ixP 6 i K p := ix_slice Tryd.underlying23 sz26
theorem sls23 {lo hi : Option Operand} {K : PV -> Prop} : sliceK Tryd.prog st 23 x lo hi K = bindO (st.ev x) (slcP 6 st lo hi K) := slc_slice Tryd.underlying23 sz26
theorem app23 {tk : Nat} {K : Delta -> Prop} : appendK Tryd.prog st tk ⟨.builtin .append, #[x, y], #[23, 23]⟩ K = bindO (st.ev x) fun d => bindO (st.ev y) fun s => bindO (srcXs st 6 s) fun ys0 => bindO (fzLL ys0) fun ys => (∀ y ∈ ys, y.length = 6) /\ appT 26 6 88 st tk K d ys :=
 append_t Tryd.underlying23 sz26 by26 z26 rfl (by decide)
theorem bs23 {id tk n : Nat} {K : PS -> Prop} {l : List (Nat × Operand)} :
  stepN dr Tryd.prog ⟨d, .buildSlice 23 n l.toArray, ty, pos, af, g⟩ st id tk K = bindO (evParts st l) fun ps => bindO (valsOf ps 0) fun xs => (∀ x ∈ xs, x.length = 6) /\ xs.length = n /\ n * 6 <= 16777216 /\ K (PS.put { st with toks := upd st.toks tk ⟨26, 6, n⟩ } d (.row tk xs)) :=
 s_buildSlice Tryd.underlying23 sz26 z26 (by decide) rfl
theorem mks23 {K : PS -> Prop} {l c : Operand} : stepN dr Tryd.prog ⟨d, .makeSlice 23 l c, ty, pos, af, g⟩ st id tk K = bindO (st.ev l) fun p => bindO (st.ev c) fun q => intK p fun n => intK q fun m => n = m /\ 0 <= n /\ n <= 9223372036854775807 /\ 88 * n <= 281474976710656 /\
  K (PS.put { st with heap := (id, .box 26 ((List.range (n.toNat * 6)).map fun i => [.val (.int .i64 0), .val (.bool false), .val (.int .i64 0), .val (.string ByteArray.empty), .val (.slice none 0 0), .val (.slice none 0 0)].getD (i % 6) (.val .nilIface))) :: st.heap } d (.ms id 0 n.toNat n.toNat)) :=
 s_makeSlice Tryd.underlying23 sz26 by26 z26 rfl rfl (by decide) rfl
theorem rdo24 {cs : List PV} {off : Nat} : readCells Tryd.prog 24 cs off = cs[off]? := rd_one ag24
theorem alc24 {K : PS -> Prop} : stepN dr Tryd.prog ⟨d, .alloc 24, ty, pos, af, g⟩ st id tk K = K (PS.put { st with heap := (id, .box 24 [.val (.slice none 0 0)]) :: st.heap } d (.ptr id 0)) := s_allocC z24 rfl rfl
theorem lns24 {K : PV -> Prop} : lenK Tryd.prog st 24 x K = bindO (st.ev x) (lenP K) := len_slice Tryd.underlying24
theorem ixs24 {K : PV -> Prop} : indexAddrK Tryd.prog st 24 x y K = bindO (st.ev x) fun p => bindO (st.ev y) fun q => intK q fun i => ixP 1 i K p := ix_slice Tryd.underlying24 sz9
theorem sls24 {lo hi : Option Operand} {K : PV -> Prop} : sliceK Tryd.prog st 24 x lo hi K = bindO (st.ev x) (slcP 1 st lo hi K) := slc_slice Tryd.underlying24 sz9
theorem app24 {tk : Nat} {K : Delta -> Prop} : appendK Tryd.prog st tk ⟨.builtin .append, #[x, y], #[24, 24]⟩ K = bindO (st.ev x) fun d => bindO (st.ev y) fun s => bindO (srcXs st 1 s) fun ys0 => bindO (fzLL ys0) fun ys => (∀ y ∈ ys, y.length = 1) /\ appT 9 1 16 st tk K d ys :=
 append_t Tryd.underlying24 sz9 by9 z9 rfl (by decide)
theorem bs24 {id tk n : Nat} {K : PS -> Prop} {l : List (Nat × Operand)} :
  stepN dr Tryd.prog ⟨d, .buildSlice 24 n l.toArray, ty, pos, af, g⟩ st id tk K = bindO (evParts st l) fun ps => bindO (valsOf ps 0) fun xs => (∀ x ∈ xs, x.length = 1) /\ xs.length = n /\ n * 1 <= 16777216 /\ K (PS.put { st with toks := upd st.toks tk ⟨9, 1, n⟩ } d (.row tk xs)) :=
 s_buildSlice Tryd.underlying24 sz9 z9 (by decide) rfl
theorem mks24 {K : PS -> Prop} {l c : Operand} : stepN dr Tryd.prog ⟨d, .makeSlice 24 l c, ty, pos, af, g⟩ st id tk K = bindO (st.ev l) fun p => bindO (st.ev c) fun q => intK p fun n => intK q fun m => n = m /\ 0 <= n /\ n <= 9223372036854775807 /\ 16 * n <= 281474976710656 /\
  K (PS.put { st with heap := (id, .box 9 ((List.range (n.toNat * 1)).map fun i => [.val (.string ByteArray.empty)].getD (i % 1) (.val .nilIface))) :: st.heap } d (.ms id 0 n.toNat n.toNat)) :=
 s_makeSlice Tryd.underlying24 sz9 by9 z9 rfl rfl (by decide) rfl
theorem rda26 {cs : List PV} {off : Nat} : readCells Tryd.prog 26 cs off = if off + 6 <= cs.length then some (.agg ((cs.drop off).take 6)) else none := rd_agg ag26 sz26
theorem alc26 {K : PS -> Prop} : stepN dr Tryd.prog ⟨d, .alloc 26, ty, pos, af, g⟩ st id tk K = K (PS.put { st with heap := (id, .box 26 [.val (.int .i64 0), .val (.bool false), .val (.int .i64 0), .val (.string ByteArray.empty), .val (.slice none 0 0), .val (.slice none 0 0)]) :: st.heap } d (.ptr id 0)) := s_allocC z26 rfl rfl
theorem fa26_0 {K : PV -> Prop} : fieldAddrK Tryd.prog st 26 x 0 K = bindO (st.ev x) (fldP 0 K) :=
 fld_ (P := Tryd.prog) (st := st) (x := x) (K := K) (f := 0) Tryd.underlying26 rfl sz3 (by decide)
theorem fi26_0 {K : PV -> Prop} : fieldK Tryd.prog st 26 x 0 K = bindO (st.ev x) (fieldP Tryd.prog 3 0 K) :=
 field_ (P := Tryd.prog) (st := st) (x := x) (K := K) (f := 0) Tryd.underlying26 rfl
theorem fa26_1 {K : PV -> Prop} : fieldAddrK Tryd.prog st 26 x 1 K = bindO (st.ev x) (fldP 1 K) :=
 fld_ (P := Tryd.prog) (st := st) (x := x) (K := K) (f := 1) Tryd.underlying26 rfl sz4 (by decide)
theorem fi26_1 {K : PV -> Prop} : fieldK Tryd.prog st 26 x 1 K = bindO (st.ev x) (fieldP Tryd.prog 4 1 K) :=
 field_ (P := Tryd.prog) (st := st) (x := x) (K := K) (f := 1) Tryd.underlying26 rfl
theorem fa26_2 {K : PV -> Prop} : fieldAddrK Tryd.prog st 26 x 2 K = bindO (st.ev x) (fldP 2 K) :=
 fld_ (P := Tryd.prog) (st := st) (x := x) (K := K) (f := 2) Tryd.underlying26 rfl sz2 (by decide)
theorem fi26_2 {K : PV -> Prop} : fieldK Tryd.prog st 26 x 2 K = bindO (st.ev x) (fieldP Tryd.prog 2 2 K) :=
 field_ (P := Tryd.prog) (st := st) (x := x) (K := K) (f := 2) Tryd.underlying26 rfl
theorem fa26_3 {K : PV -> Prop} : fieldAddrK Tryd.prog st 26 x 3 K = bindO (st.ev x) (fldP 3 K) :=
 fld_ (P := Tryd.prog) (st := st) (x := x) (K := K) (f := 3) Tryd.underlying26 rfl sz9 (by decide)
theorem fi26_3 {K : PV -> Prop} : fieldK Tryd.prog st 26 x 3 K = bindO (st.ev x) (fieldP Tryd.prog 9 3 K) :=
 field_ (P := Tryd.prog) (st := st) (x := x) (K := K) (f := 3) Tryd.underlying26 rfl
theorem fa26_4 {K : PV -> Prop} : fieldAddrK Tryd.prog st 26 x 4 K = bindO (st.ev x) (fldP 4 K) :=
 fld_ (P := Tryd.prog) (st := st) (x := x) (K := K) (f := 4) Tryd.underlying26 rfl sz23 (by decide)
theorem fi26_4 {K : PV -> Prop} : fieldK Tryd.prog st 26 x 4 K = bindO (st.ev x) (fieldP Tryd.prog 23 4 K) :=
 field_ (P := Tryd.prog) (st := st) (x := x) (K := K) (f := 4) Tryd.underlying26 rfl
theorem fa26_5 {K : PV -> Prop} : fieldAddrK Tryd.prog st 26 x 5 K = bindO (st.ev x) (fldP 5 K) :=
 fld_ (P := Tryd.prog) (st := st) (x := x) (K := K) (f := 5) Tryd.underlying26 rfl sz24 (by decide)
theorem fi26_5 {K : PV -> Prop} : fieldK Tryd.prog st 26 x 5 K = bindO (st.ev x) (fieldP Tryd.prog 24 5 K) :=
 field_ (P := Tryd.prog) (st := st) (x := x) (K := K) (f := 5) Tryd.underlying26 rfl
theorem bld26 {l : List (Nat × Operand)} {K : PV -> Prop} : buildK Tryd.prog st 26 l K = bindO (evParts st l) fun ps => (ps.all fun e => match e.2 with | .tup _ => false | _ => true) = true /\ bindO (fillP (fun i => [(0, 1), (1, 1), (2, 1), (3, 1), (4, 1), (5, 1)][i]?) [.val (.int .i64 0), .val (.bool false), .val (.int .i64 0), .val (.string ByteArray.empty), .val (.slice none 0 0), .val (.slice none 0 0)] ps) fun cs => K (.agg cs) :=
 buildC Tryd.underlying26 z26 (by kernel_rfl) rfl rfl
theorem rdo27 {cs : List PV} {off : Nat} : readCells Tryd.prog 27 cs off = cs[off]? := rd_one ag27
theorem rdo31 {cs : List PV} {off : Nat} : readCells Tryd.prog 31 cs off = cs[off]? := rd_one ag31
theorem lns31 {K : PV -> Prop} : lenK Tryd.prog st 31 x K = bindO (st.ev x) (lenP K) := len_slice Tryd.underlying31
theorem ixs31 {K : PV -> Prop} : indexAddrK Tryd.prog st 31 x y K = bindO (st.ev x) fun p => bindO (st.ev y) fun q => intK q fun i => ixP 6 i K p := ix_slice Tryd.underlying31 sz33
theorem sls31 {lo hi : Option Operand} {K : PV -> Prop} : sliceK Tryd.prog st 31 x lo hi K = bindO (st.ev x) (slcP 6 st lo hi K) := slc_slice Tryd.underlying31 sz33
theorem app31 {tk : Nat} {K : Delta -> Prop} : appendK Tryd.prog st tk ⟨.builtin .append, #[x, y], #[31, 31]⟩ K = bindO (st.ev x) fun d => bindO (st.ev y) fun s => bindO (srcXs st 6 s) fun ys0 => bindO (fzLL ys0) fun ys => (∀ y ∈ ys, y.length = 6) /\ appT 33 6 88 st tk K d ys :=
 append_t Tryd.underlying31 sz33 by33 z33 rfl (by decide)
theorem bs31 {id tk n : Nat} {K : PS -> Prop} {l : List (Nat × Operand)} :
  stepN dr Tryd.prog ⟨d, .buildSlice 31 n l.toArray, ty, pos, af, g⟩ st id tk K = bindO (evParts st l) fun ps => bindO (valsOf ps 0) fun xs => (∀ x ∈ xs, x.length = 6) /\ xs.length = n /\ n * 6 <= 16777216 /\ K (PS.put { st with toks := upd st.toks tk ⟨33, 6, n⟩ } d (.row tk xs)) :=
 s_buildSlice Tryd.underlying31 sz33 z33 (by decide) rfl
theorem mks31 {K : PS -> Prop} {l c : Operand} : stepN dr Tryd.prog ⟨d, .makeSlice 31 l c, ty, pos, af, g⟩ st id tk K = bindO (st.ev l) fun p => bindO (st.ev c) fun q => intK p fun n => intK q fun m => n = m /\ 0 <= n /\ n <= 9223372036854775807 /\ 88 * n <= 281474976710656 /\
  K (PS.put { st with heap := (id, .box 33 ((List.range (n.toNat * 6)).map fun i => [.val (.int .i64 0), .val (.bool false), .val (.int .i64 0), .val (.string ByteArray.empty), .val (.slice none 0 0), .val (.slice none 0 0)].getD (i % 6) (.val .nilIface))) :: st.heap } d (.ms id 0 n.toNat n.toNat)) :=
 s_makeSlice Tryd.underlying31 sz33 by33 z33 rfl rfl (by decide) rfl
theorem rda33 {cs : List PV} {off : Nat} : readCells Tryd.prog 33 cs off = if off + 6 <= cs.length then some (.agg ((cs.drop off).take 6)) else none := rd_agg ag33 sz33
theorem alc33 {K : PS -> Prop} : stepN dr Tryd.prog ⟨d, .alloc 33, ty, pos, af, g⟩ st id tk K = K (PS.put { st with heap := (id, .box 33 [.val (.int .i64 0), .val (.bool false), .val (.int .i64 0), .val (.string ByteArray.empty), .val (.slice none 0 0), .val (.slice none 0 0)]) :: st.heap } d (.ptr id 0)) := s_allocC z33 rfl rfl
theorem fa33_0 {K : PV -> Prop} : fieldAddrK Tryd.prog st 33 x 0 K = bindO (st.ev x) (fldP 0 K) :=
 fld_ (P := Tryd.prog) (st := st) (x := x) (K := K) (f := 0) Tryd.underlying33 rfl sz3 (by decide)
theorem fi33_0 {K : PV -> Prop} : fieldK Tryd.prog st 33 x 0 K = bindO (st.ev x) (fieldP Tryd.prog 3 0 K) :=
 field_ (P := Tryd.prog) (st := st) (x := x) (K := K) (f := 0) Tryd.underlying33 rfl
theorem fa33_1 {K : PV -> Prop} : fieldAddrK Tryd.prog st 33 x 1 K = bindO (st.ev x) (fldP 1 K) :=
 fld_ (P := Tryd.prog) (st := st) (x := x) (K := K) (f := 1) Tryd.underlying33 rfl sz4 (by decide)
theorem fi33_1 {K : PV -> Prop} : fieldK Tryd.prog st 33 x 1 K = bindO (st.ev x) (fieldP Tryd.prog 4 1 K) :=
 field_ (P := Tryd.prog) (st := st) (x := x) (K := K) (f := 1) Tryd.underlying33 rfl
theorem fa33_2 {K : PV -> Prop} : fieldAddrK Tryd.prog st 33 x 2 K = bindO (st.ev x) (fldP 2 K) :=
 fld_ (P := Tryd.prog) (st := st) (x := x) (K := K) (f := 2) Tryd.underlying33 rfl sz2 (by decide)
theorem fi33_2 {K : PV -> Prop} : fieldK Tryd.prog st 33 x 2 K = bindO (st.ev x) (fieldP Tryd.prog 2 2 K) :=
 field_ (P := Tryd.prog) (st := st) (x := x) (K := K) (f := 2) Tryd.underlying33 rfl
theorem fa33_3 {K : PV -> Prop} : fieldAddrK Tryd.prog st 33 x 3 K = bindO (st.ev x) (fldP 3 K) :=
 fld_ (P := Tryd.prog) (st := st) (x := x) (K := K) (f := 3) Tryd.underlying33 rfl sz9 (by decide)
theorem fi33_3 {K : PV -> Prop} : fieldK Tryd.prog st 33 x 3 K = bindO (st.ev x) (fieldP Tryd.prog 9 3 K) :=
 field_ (P := Tryd.prog) (st := st) (x := x) (K := K) (f := 3) Tryd.underlying33 rfl
theorem fa33_4 {K : PV -> Prop} : fieldAddrK Tryd.prog st 33 x 4 K = bindO (st.ev x) (fldP 4 K) :=
 fld_ (P := Tryd.prog) (st := st) (x := x) (K := K) (f := 4) Tryd.underlying33 rfl sz31 (by decide)
theorem fi33_4 {K : PV -> Prop} : fieldK Tryd.prog st 33 x 4 K = bindO (st.ev x) (fieldP Tryd.prog 31 4 K) :=
 field_ (P := Tryd.prog) (st := st) (x := x) (K := K) (f := 4) Tryd.underlying33 rfl
theorem fa33_5 {K : PV -> Prop} : fieldAddrK Tryd.prog st 33 x 5 K = bindO (st.ev x) (fldP 5 K) :=
 fld_ (P := Tryd.prog) (st := st) (x := x) (K := K) (f := 5) Tryd.underlying33 rfl sz24 (by decide)
theorem fi33_5 {K : PV -> Prop} : fieldK Tryd.prog st 33 x 5 K = bindO (st.ev x) (fieldP Tryd.prog 24 5 K) :=
 field_ (P := Tryd.prog) (st := st) (x := x) (K := K) (f := 5) Tryd.underlying33 rfl
theorem bld33 {l : List (Nat × Operand)} {K : PV -> Prop} : buildK Tryd.prog st 33 l K = bindO (evParts st l) fun ps => (ps.all fun e => match e.2 with | .tup _ => false | _ => true) = true /\ bindO (fillP (fun i => [(0, 1), (1, 1), (2, 1), (3, 1), (4, 1), (5, 1)][i]?) [.val (.int .i64 0), .val (.bool false), .val (.int .i64 0), .val (.string ByteArray.empty), .val (.slice none 0 0), .val (.slice none 0 0)] ps) fun cs => K (.agg cs) :=
 buildC Tryd.underlying33 z33 (by kernel_rfl) rfl rfl
theorem rdo36 {cs : List PV} {off : Nat} : readCells Tryd.prog 36 cs off = cs[off]? := rd_one ag36
theorem rdo37 {cs : List PV} {off : Nat} : readCells Tryd.prog 37 cs off = cs[off]? := rd_one ag37
theorem rda40 {cs : List PV} {off : Nat} : readCells Tryd.prog 40 cs off = if off + 5 <= cs.length then some (.agg ((cs.drop off).take 5)) else none := rd_agg ag40 sz40
theorem alc40 {K : PS -> Prop} : stepN dr Tryd.prog ⟨d, .alloc 40, ty, pos, af, g⟩ st id tk K = K (PS.put { st with heap := (id, .box 40 [.val (.int .i64 0), .val (.string ByteArray.empty), .val (.int .i64 0), .val (.int .i64 0), .val (.int .i64 0)]) :: st.heap } d (.ptr id 0)) := s_allocC z40 rfl rfl
theorem fa40_0 {K : PV -> Prop} : fieldAddrK Tryd.prog st 40 x 0 K = bindO (st.ev x) (fldP 0 K) :=
 fld_ (P := Tryd.prog) (st := st) (x := x) (K := K) (f := 0) Tryd.underlying40 rfl sz3 (by decide)
theorem fi40_0 {K : PV -> Prop} : fieldK Tryd.prog st 40 x 0 K = bindO (st.ev x) (fieldP Tryd.prog 3 0 K) :=
 field_ (P := Tryd.prog) (st := st) (x := x) (K := K) (f := 0) Tryd.underlying40 rfl
theorem fa40_1 {K : PV -> Prop} : fieldAddrK Tryd.prog st 40 x 1 K = bindO (st.ev x) (fldP 1 K) :=
 fld_ (P := Tryd.prog) (st := st) (x := x) (K := K) (f := 1) Tryd.underlying40 rfl sz9 (by decide)
theorem fi40_1 {K : PV -> Prop} : fieldK Tryd.prog st 40 x 1 K = bindO (st.ev x) (fieldP Tryd.prog 9 1 K) :=
 field_ (P := Tryd.prog) (st := st) (x := x) (K := K) (f := 1) Tryd.underlying40 rfl
theorem fa40_2 {K : PV -> Prop} : fieldAddrK Tryd.prog st 40 x 2 K = bindO (st.ev x) (fldP 2 K) :=
 fld_ (P := Tryd.prog) (st := st) (x := x) (K := K) (f := 2) Tryd.underlying40 rfl sz2 (by decide)
theorem fi40_2 {K : PV -> Prop} : fieldK Tryd.prog st 40 x 2 K = bindO (st.ev x) (fieldP Tryd.prog 2 2 K) :=
 field_ (P := Tryd.prog) (st := st) (x := x) (K := K) (f := 2) Tryd.underlying40 rfl
theorem fa40_3 {K : PV -> Prop} : fieldAddrK Tryd.prog st 40 x 3 K = bindO (st.ev x) (fldP 3 K) :=
 fld_ (P := Tryd.prog) (st := st) (x := x) (K := K) (f := 3) Tryd.underlying40 rfl sz3 (by decide)
theorem fi40_3 {K : PV -> Prop} : fieldK Tryd.prog st 40 x 3 K = bindO (st.ev x) (fieldP Tryd.prog 3 3 K) :=
 field_ (P := Tryd.prog) (st := st) (x := x) (K := K) (f := 3) Tryd.underlying40 rfl
theorem fa40_4 {K : PV -> Prop} : fieldAddrK Tryd.prog st 40 x 4 K = bindO (st.ev x) (fldP 4 K) :=
 fld_ (P := Tryd.prog) (st := st) (x := x) (K := K) (f := 4) Tryd.underlying40 rfl sz3 (by decide)
theorem fi40_4 {K : PV -> Prop} : fieldK Tryd.prog st 40 x 4 K = bindO (st.ev x) (fieldP Tryd.prog 3 4 K) :=
 field_ (P := Tryd.prog) (st := st) (x := x) (K := K) (f := 4) Tryd.underlying40 rfl
theorem bld40 {l : List (Nat × Operand)} {K : PV -> Prop} : buildK Tryd.prog st 40 l K = bindO (evParts st l) fun ps => (ps.all fun e => match e.2 with | .tup _ => false | _ => true) = true /\ bindO (fillP (fun i => [(0, 1), (1, 1), (2, 1), (3, 1), (4, 1)][i]?) [.val (.int .i64 0), .val (.string ByteArray.empty), .val (.int .i64 0), .val (.int .i64 0), .val (.int .i64 0)] ps) fun cs => K (.agg cs) :=
 buildC Tryd.underlying40 z40 (by kernel_rfl) rfl rfl
theorem rda42 {cs : List PV} {off : Nat} : readCells Tryd.prog 42 cs off = if off + 9 <= cs.length then some (.agg ((cs.drop off).take 9)) else none := rd_agg ag42 sz42
theorem fa42_0 {K : PV -> Prop} : fieldAddrK Tryd.prog st 42 x 0 K = bindO (st.ev x) (fldP 0 K) :=
 fld_ (P := Tryd.prog) (st := st) (x := x) (K := K) (f := 0) Tryd.underlying42 rfl sz37 (by decide)
theorem fi42_0 {K : PV -> Prop} : fieldK Tryd.prog st 42 x 0 K = bindO (st.ev x) (fieldP Tryd.prog 37 0 K) :=
 field_ (P := Tryd.prog) (st := st) (x := x) (K := K) (f := 0) Tryd.underlying42 rfl
theorem fa42_1 {K : PV -> Prop} : fieldAddrK Tryd.prog st 42 x 1 K = bindO (st.ev x) (fldP 1 K) :=
 fld_ (P := Tryd.prog) (st := st) (x := x) (K := K) (f := 1) Tryd.underlying42 rfl sz40 (by decide)
theorem fi42_1 {K : PV -> Prop} : fieldK Tryd.prog st 42 x 1 K = bindO (st.ev x) (fieldP Tryd.prog 40 1 K) :=
 field_ (P := Tryd.prog) (st := st) (x := x) (K := K) (f := 1) Tryd.underlying42 rfl
theorem fa42_2 {K : PV -> Prop} : fieldAddrK Tryd.prog st 42 x 2 K = bindO (st.ev x) (fldP 6 K) :=
 fld_ (P := Tryd.prog) (st := st) (x := x) (K := K) (f := 2) Tryd.underlying42 rfl sz3 (by decide)
theorem fi42_2 {K : PV -> Prop} : fieldK Tryd.prog st 42 x 2 K = bindO (st.ev x) (fieldP Tryd.prog 3 6 K) :=
 field_ (P := Tryd.prog) (st := st) (x := x) (K := K) (f := 2) Tryd.underlying42 rfl
theorem fa42_3 {K : PV -> Prop} : fieldAddrK Tryd.prog st 42 x 3 K = bindO (st.ev x) (fldP 7 K) :=
 fld_ (P := Tryd.prog) (st := st) (x := x) (K := K) (f := 3) Tryd.underlying42 rfl sz3 (by decide)
theorem fi42_3 {K : PV -> Prop} : fieldK Tryd.prog st 42 x 3 K = bindO (st.ev x) (fieldP Tryd.prog 3 7 K) :=
 field_ (P := Tryd.prog) (st := st) (x := x) (K := K) (f := 3) Tryd.underlying42 rfl
theorem fa42_4 {K : PV -> Prop} : fieldAddrK Tryd.prog st 42 x 4 K = bindO (st.ev x) (fldP 8 K) :=
 fld_ (P := Tryd.prog) (st := st) (x := x) (K := K) (f := 4) Tryd.underlying42 rfl sz27 (by decide)
theorem fi42_4 {K : PV -> Prop} : fieldK Tryd.prog st 42 x 4 K = bindO (st.ev x) (fieldP Tryd.prog 27 8 K) :=
 field_ (P := Tryd.prog) (st := st) (x := x) (K := K) (f := 4) Tryd.underlying42 rfl
theorem bld42 {l : List (Nat × Operand)} {K : PV -> Prop} : buildK Tryd.prog st 42 l K = bindO (evParts st l) fun ps => (ps.all fun e => match e.2 with | .tup _ => false | _ => true) = true /\ bindO (fillP (fun i => [(0, 1), (1, 5), (6, 1), (7, 1), (8, 1)][i]?) [.val (.pointer none), .val (.int .i64 0), .val (.string ByteArray.empty), .val (.int .i64 0), .val (.int .i64 0), .val (.int .i64 0), .val (.int .i64 0), .val (.int .i64 0), .val (.int .i64 0)] ps) fun cs => K (.agg cs) :=
 buildC Tryd.underlying42 z42 (by kernel_rfl) rfl rfl
theorem rda47 {cs : List PV} {off : Nat} : readCells Tryd.prog 47 cs off = if off + 2 <= cs.length then some (.agg ((cs.drop off).take 2)) else none := rd_agg ag47 sz47
theorem fa47_0 {K : PV -> Prop} : fieldAddrK Tryd.prog st 47 x 0 K = bindO (st.ev x) (fldP 0 K) :=
 fld_ (P := Tryd.prog) (st := st) (x := x) (K := K) (f := 0) Tryd.underlying47 rfl sz9 (by decide)
theorem fi47_0 {K : PV -> Prop} : fieldK Tryd.prog st 47 x 0 K = bindO (st.ev x) (fieldP Tryd.prog 9 0 K) :=
 field_ (P := Tryd.prog) (st := st) (x := x) (K := K) (f := 0) Tryd.underlying47 rfl
theorem fa47_1 {K : PV -> Prop} : fieldAddrK Tryd.prog st 47 x 1 K = bindO (st.ev x) (fldP 1 K) :=
 fld_ (P := Tryd.prog) (st := st) (x := x) (K := K) (f := 1) Tryd.underlying47 rfl sz3 (by decide)
theorem fi47_1 {K : PV -> Prop} : fieldK Tryd.prog st 47 x 1 K = bindO (st.ev x) (fieldP Tryd.prog 3 1 K) :=
 field_ (P := Tryd.prog) (st := st) (x := x) (K := K) (f := 1) Tryd.underlying47 rfl
theorem bld47 {l : List (Nat × Operand)} {K : PV -> Prop} : buildK Tryd.prog st 47 l K = bindO (evParts st l) fun ps => (ps.all fun e => match e.2 with | .tup _ => false | _ => true) = true /\ bindO (fillP (fun i => [(0, 1), (1, 1)][i]?) [.val (.string ByteArray.empty), .val (.int .i64 0)] ps) fun cs => K (.agg cs) :=
 buildC Tryd.underlying47 z47 (by kernel_rfl) rfl rfl
theorem rdo50 {cs : List PV} {off : Nat} : readCells Tryd.prog 50 cs off = cs[off]? := rd_one ag50
theorem rdo55 {cs : List PV} {off : Nat} : readCells Tryd.prog 55 cs off = cs[off]? := rd_one ag55
theorem rdo57 {cs : List PV} {off : Nat} : readCells Tryd.prog 57 cs off = cs[off]? := rd_one ag57
theorem rdo58 {cs : List PV} {off : Nat} : readCells Tryd.prog 58 cs off = cs[off]? := rd_one ag58
theorem rdo59 {cs : List PV} {off : Nat} : readCells Tryd.prog 59 cs off = cs[off]? := rd_one ag59
theorem rdo60 {cs : List PV} {off : Nat} : readCells Tryd.prog 60 cs off = cs[off]? := rd_one ag60
theorem rdo64 {cs : List PV} {off : Nat} : readCells Tryd.prog 64 cs off = cs[off]? := rd_one ag64
theorem rdo65 {cs : List PV} {off : Nat} : readCells Tryd.prog 65 cs off = cs[off]? := rd_one ag65
theorem lns65 {K : PV -> Prop} : lenK Tryd.prog st 65 x K = bindO (st.ev x) (lenP K) := len_slice Tryd.underlying65
theorem ixs65 {K : PV -> Prop} : indexAddrK Tryd.prog st 65 x y K = bindO (st.ev x) fun p => bindO (st.ev y) fun q => intK q fun i => ixP 1 i K p := ix_slice Tryd.underlying65 sz5
theorem sls65 {lo hi : Option Operand} {K : PV -> Prop} : sliceK Tryd.prog st 65 x lo hi K = bindO (st.ev x) (slcP 1 st lo hi K) := slc_slice Tryd.underlying65 sz5
theorem app65 {tk : Nat} {K : Delta -> Prop} : appendK Tryd.prog st tk ⟨.builtin .append, #[x, y], #[65, 65]⟩ K = bindO (st.ev x) fun d => bindO (st.ev y) fun s => bindO (srcXs st 1 s) fun ys0 => bindO (fzLL ys0) fun ys => (∀ y ∈ ys, y.length = 1) /\ appT 5 1 1 st tk K d ys :=
 append_t Tryd.underlying65 sz5 by5 z5 rfl (by decide)
theorem bs65 {id tk n : Nat} {K : PS -> Prop} {l : List (Nat × Operand)} :
  stepN dr Tryd.prog ⟨d, .buildSlice 65 n l.toArray, ty, pos, af, g⟩ st id tk K = bindO (evParts st l) fun ps => bindO (valsOf ps 0) fun xs => (∀ x ∈ xs, x.length = 1) /\ xs.length = n /\ n * 1 <= 16777216 /\ K (PS.put { st with toks := upd st.toks tk ⟨5, 1, n⟩ } d (.row tk xs)) :=
 s_buildSlice Tryd.underlying65 sz5 z5 (by decide) rfl
theorem isb65 : isBytes Tryd.prog 65 = True := eq_true ⟨5, Tryd.underlying65, Tryd.underlying5⟩
theorem aps65 {tk : Nat} {K : Delta -> Prop} : appendK Tryd.prog st tk ⟨.builtin .append, #[x, y], #[65, 9]⟩ K = bindO (st.ev x) fun d => bindO (st.ev y) fun s => appS 5 1 st tk K d s :=
 append_s Tryd.underlying65 Tryd.underlying9 sz5 by5 z5
theorem cvr65 {k : Nat} {xs : List Int} {K : PV -> Prop} : convK Tryd.prog 65 9 (rowC k xs) K = K (.val (.string (strOfNums xs))) := conv_rowC (by rw [Tryd.underlying65]; rfl) ⟨5, Tryd.underlying65, Tryd.underlying5⟩ Tryd.underlying9
theorem mks65 {K : PS -> Prop} {l c : Operand} : stepN dr Tryd.prog ⟨d, .makeSlice 65 l c, ty, pos, af, g⟩ st id tk K = bindO (st.ev l) fun p => bindO (st.ev c) fun q => intK p fun n => intK q fun m => n = m /\ 0 <= n /\ n <= 9223372036854775807 /\ 1 * n <= 281474976710656 /\
  K (PS.put { st with heap := (id, .box 5 ((List.range (n.toNat * 1)).map fun i => [.val (.int .u8 0)].getD (i % 1) (.val .nilIface))) :: st.heap } d (.ms id 0 n.toNat n.toNat)) :=
 s_makeSlice Tryd.underlying65 sz5 by5 z5 rfl rfl (by decide) rfl
theorem rda67 {cs : List PV} {off : Nat} : readCells Tryd.prog 67 cs off = if off + 2 <= cs.length then some (.agg ((cs.drop off).take 2)) else none := rd_agg ag67 sz67
theorem alc67 {K : PS -> Prop} : stepN dr Tryd.prog ⟨d, .alloc 67, ty, pos, af, g⟩ st id tk K = K (PS.put { st with heap := (id, .box 67 [.val (.pointer none), .val (.slice none 0 0)]) :: st.heap } d (.ptr id 0)) := s_allocC z67 rfl rfl
theorem fa67_0 {K : PV -> Prop} : fieldAddrK Tryd.prog st 67 x 0 K = bindO (st.ev x) (fldP 0 K) :=
 fld_ (P := Tryd.prog) (st := st) (x := x) (K := K) (f := 0) Tryd.underlying67 rfl sz64 (by decide)
theorem fi67_0 {K : PV -> Prop} : fieldK Tryd.prog st 67 x 0 K = bindO (st.ev x) (fieldP Tryd.prog 64 0 K) :=
 field_ (P := Tryd.prog) (st := st) (x := x) (K := K) (f := 0) Tryd.underlying67 rfl
theorem fa67_1 {K : PV -> Prop} : fieldAddrK Tryd.prog st 67 x 1 K = bindO (st.ev x) (fldP 1 K) :=
 fld_ (P := Tryd.prog) (st := st) (x := x) (K := K) (f := 1) Tryd.underlying67 rfl sz65 (by decide)
theorem fi67_1 {K : PV -> Prop} : fieldK Tryd.prog st 67 x 1 K = bindO (st.ev x) (fieldP Tryd.prog 65 1 K) :=
 field_ (P := Tryd.prog) (st := st) (x := x) (K := K) (f := 1) Tryd.underlying67 rfl
theorem rdo71 {cs : List PV} {off : Nat} : readCells Tryd.prog 71 cs off = cs[off]? := rd_one ag71
theorem ifx71 : (∃ ms, Tryd.prog.underlying 71 = some (.interface ms)) = True := eq_true ⟨_, Tryd.underlying71⟩
theorem rdo90 {cs : List PV} {off : Nat} : readCells Tryd.prog 90 cs off = cs[off]? := rd_one ag90
theorem rdo95 {cs : List PV} {off : Nat} : readCells Tryd.prog 95 cs off = cs[off]? := rd_one ag95
theorem rdo105 {cs : List PV} {off : Nat} : readCells Tryd.prog 105 cs off = cs[off]? := rd_one ag105
theorem rdo106 {cs : List PV} {off : Nat} : readCells Tryd.prog 106 cs off = cs[off]? := rd_one ag106
theorem mki106 {K : PS -> Prop} : stepN dr Tryd.prog ⟨d, .makeInterface 106 x, ty, pos, af, g⟩ st id tk K = bindO (st.ev x) fun p => K (st.put d (.iface 106 p)) := s_makeIface Tryd.underlying106 rfl
theorem rdo107 {cs : List PV} {off : Nat} : readCells Tryd.prog 107 cs off = cs[off]? := rd_one ag107
theorem rdo110 {cs : List PV} {off : Nat} : readCells Tryd.prog 110 cs off = cs[off]? := rd_one ag110
theorem mki110 {K : PS -> Prop} : stepN dr Tryd.prog ⟨d, .makeInterface 110 x, ty, pos, af, g⟩ st id tk K = bindO (st.ev x) fun p => K (st.put d (.iface 110 p)) := s_makeIface Tryd.underlying110 rfl
theorem rda118 {cs : List PV} {off : Nat} : readCells Tryd.prog 118 cs off = if off + 3 <= cs.length then some (.agg ((cs.drop off).take 3)) else none := rd_agg ag118 sz118
theorem fa118_0 {K : PV -> Prop} : fieldAddrK Tryd.prog st 118 x 0 K = bindO (st.ev x) (fldP 0 K) :=
 fld_ (P := Tryd.prog) (st := st) (x := x) (K := K) (f := 0) Tryd.underlying118 rfl sz9 (by decide)
theorem fi118_0 {K : PV -> Prop} : fieldK Tryd.prog st 118 x 0 K = bindO (st.ev x) (fieldP Tryd.prog 9 0 K) :=
 field_ (P := Tryd.prog) (st := st) (x := x) (K := K) (f := 0) Tryd.underlying118 rfl
theorem fa118_1 {K : PV -> Prop} : fieldAddrK Tryd.prog st 118 x 1 K = bindO (st.ev x) (fldP 1 K) :=
 fld_ (P := Tryd.prog) (st := st) (x := x) (K := K) (f := 1) Tryd.underlying118 rfl sz9 (by decide)
theorem fi118_1 {K : PV -> Prop} : fieldK Tryd.prog st 118 x 1 K = bindO (st.ev x) (fieldP Tryd.prog 9 1 K) :=
 field_ (P := Tryd.prog) (st := st) (x := x) (K := K) (f := 1) Tryd.underlying118 rfl
theorem fa118_2 {K : PV -> Prop} : fieldAddrK Tryd.prog st 118 x 2 K = bindO (st.ev x) (fldP 2 K) :=
 fld_ (P := Tryd.prog) (st := st) (x := x) (K := K) (f := 2) Tryd.underlying118 rfl sz71 (by decide)
theorem fi118_2 {K : PV -> Prop} : fieldK Tryd.prog st 118 x 2 K = bindO (st.ev x) (fieldP Tryd.prog 71 2 K) :=
 field_ (P := Tryd.prog) (st := st) (x := x) (K := K) (f := 2) Tryd.underlying118 rfl
theorem bld118 {l : List (Nat × Operand)} {K : PV -> Prop} : buildK Tryd.prog st 118 l K = bindO (evParts st l) fun ps => (ps.all fun e => match e.2 with | .tup _ => false | _ => true) = true /\ bindO (fillP (fun i => [(0, 1), (1, 1), (2, 1)][i]?) [.val (.string ByteArray.empty), .val (.string ByteArray.empty), .val (.nilIface)] ps) fun cs => K (.agg cs) :=
 buildC Tryd.underlying118 z118 (by kernel_rfl) rfl rfl
theorem rdo120 {cs : List PV} {off : Nat} : readCells Tryd.prog 120 cs off = cs[off]? := rd_one ag120
theorem mki120 {K : PS -> Prop} : stepN dr Tryd.prog ⟨d, .makeInterface 120 x, ty, pos, af, g⟩ st id tk K = bindO (st.ev x) fun p => K (st.put d (.iface 120 p)) := s_makeIface Tryd.underlying120 rfl
theorem rda122 {cs : List PV} {off : Nat} : readCells Tryd.prog 122 cs off = if off + 1 <= cs.length then some (.agg ((cs.drop off).take 1)) else none := rd_agg ag122 sz122
theorem fa122_0 {K : PV -> Prop} : fieldAddrK Tryd.prog st 122 x 0 K = bindO (st.ev x) (fldP 0 K) :=
 fld_ (P := Tryd.prog) (st := st) (x := x) (K := K) (f := 0) Tryd.underlying122 rfl sz9 (by decide)
theorem fi122_0 {K : PV -> Prop} : fieldK Tryd.prog st 122 x 0 K = bindO (st.ev x) (fieldP Tryd.prog 9 0 K) :=
 field_ (P := Tryd.prog) (st := st) (x := x) (K := K) (f := 0) Tryd.underlying122 rfl
theorem bld122 {l : List (Nat × Operand)} {K : PV -> Prop} : buildK Tryd.prog st 122 l K = bindO (evParts st l) fun ps => (ps.all fun e => match e.2 with | .tup _ => false | _ => true) = true /\ bindO (fillP (fun i => [(0, 1)][i]?) [.val (.string ByteArray.empty)] ps) fun cs => K (.agg cs) :=
 buildC Tryd.underlying122 z122 (by kernel_rfl) rfl rfl
theorem rda124 {cs : List PV} {off : Nat} : readCells Tryd.prog 124 cs off = if off + 24 <= cs.length then some (.agg ((cs.drop off).take 24)) else none := rd_agg ag124 sz124
theorem alc124 {K : PS -> Prop} : stepN dr Tryd.prog ⟨d, .alloc 124, ty, pos, af, g⟩ st id tk K = K (PS.put { st with heap := (id, .box 124 [.val (.int .u8 0), .val (.int .u8 0), .val (.int .u8 0), .val (.int .u8 0), .val (.int .u8 0), .val (.int .u8 0), .val (.int .u8 0), .val (.int .u8 0), .val (.int .u8 0), .val (.int .u8 0), .val (.int .u8 0), .val (.int .u8 0), .val (.int .u8 0), .val (.int .u8 0), .val (.int .u8 0), .val (.int .u8 0), .val (.int .u8 0), .val (.int .u8 0), .val (.int .u8 0), .val (.int .u8 0), .val (.int .u8 0), .val (.int .u8 0), .val (.int .u8 0), .val (.int .u8 0)]) :: st.heap } d (.ptr id 0)) := s_allocC z124 rfl rfl
theorem lns124 {K : PV -> Prop} : lenK Tryd.prog st 124 x K = K (.val (.int .i64 (24 : Nat))) := len_array Tryd.underlying124
theorem ixs124 {K : PV -> Prop} : indexAddrK Tryd.prog st 124 x y K = bindO (st.ev x) fun p => bindO (st.ev y) fun q => intK q fun i => ixA 1 24 i K p := ix_array Tryd.underlying124 sz5
theorem rda131 {cs : List PV} {off : Nat} : readCells Tryd.prog 131 cs off = if off + 20 <= cs.length then some (.agg ((cs.drop off).take 20)) else none := rd_agg ag131 sz131
theorem lns131 {K : PV -> Prop} : lenK Tryd.prog st 131 x K = K (.val (.int .i64 (20 : Nat))) := len_array Tryd.underlying131
theorem ixs131 {K : PV -> Prop} : indexAddrK Tryd.prog st 131 x y K = bindO (st.ev x) fun p => bindO (st.ev y) fun q => intK q fun i => ixA 1 20 i K p := ix_array Tryd.underlying131 sz107
theorem rdo132 {cs : List PV} {off : Nat} : readCells Tryd.prog 132 cs off = cs[off]? := rd_one ag132
theorem rda136 {cs : List PV} {off : Nat} : readCells Tryd.prog 136 cs off = if off + 32 <= cs.length then some (.agg ((cs.drop off).take 32)) else none := rd_agg ag136 sz136
theorem lns136 {K : PV -> Prop} : lenK Tryd.prog st 136 x K = K (.val (.int .i64 (32 : Nat))) := len_array Tryd.underlying136
theorem ixs136 {K : PV -> Prop} : indexAddrK Tryd.prog st 136 x y K = bindO (st.ev x) fun p => bindO (st.ev y) fun q => intK q fun i => ixA 1 32 i K p := ix_array Tryd.underlying136 sz5
theorem rda137 {cs : List PV} {off : Nat} : readCells Tryd.prog 137 cs off = if off + 64 <= cs.length then some (.agg ((cs.drop off).take 64)) else none := rd_agg ag137 sz137
theorem lns137 {K : PV -> Prop} : lenK Tryd.prog st 137 x K = K (.val (.int .i64 (64 : Nat))) := len_array Tryd.underlying137
theorem ixs137 {K : PV -> Prop} : indexAddrK Tryd.prog st 137 x y K = bindO (st.ev x) fun p => bindO (st.ev y) fun q => intK q fun i => ixA 1 64 i K p := ix_array Tryd.underlying137 sz5
attribute [go_sem ↓] mki9 rng9 lns9 ixs9 sls9 lns23 ixs23 sls23 app23 bs23 mks23 alc24 lns24 ixs24 sls24 app24 bs24 mks24 alc26 fa26_0 fi26_0 fa26_1 fi26_1 fa26_2 fi26_2 fa26_3 fi26_3 fa26_4 fi26_4 fa26_5 fi26_5 bld26 lns31 ixs31 sls31 app31 bs31 mks31 alc33 fa33_0 fi33_0 fa33_1 fi33_1 fa33_2 fi33_2 fa33_3 fi33_3 fa33_4 fi33_4 fa33_5 fi33_5 bld33 alc40 fa40_0 fi40_0 fa40_1 fi40_1 fa40_2 fi40_2 fa40_3 fi40_3 fa40_4 fi40_4 bld40 fa42_0 fi42_0 fa42_1 fi42_1 fa42_2 fi42_2 fa42_3 fi42_3 fa42_4 fi42_4 bld42 fa47_0 fi47_0 fa47_1 fi47_1 bld47 lns65 ixs65 sls65 aps65 cvr65 app65 bs65 mks65 alc67 fa67_0 fi67_0 fa67_1 fi67_1 mki106 mki110 fa118_0 fi118_0 fa118_1 fi118_1 fa118_2 fi118_2 bld118 mki120 fa122_0 fi122_0 bld122 alc124 lns124 ixs124 lns131 ixs131 lns136 ixs136 lns137 ixs137
attribute [go_sem] rdo2 sz2 Tryd.underlying2 rdo3 sz3 Tryd.underlying3 rdo4 sz4 Tryd.underlying4 rdo5 sz5 Tryd.underlying5 rdo9 sz9 Tryd.underlying9 rdo20 sz20 ifx20 rdo21 sz21 Tryd.underlying21 rdo23 sz23 rdo24 sz24 rda26 sz26 rdo27 sz27 Tryd.underlying27 rdo31 sz31 rda33 sz33 rdo36 sz36 rdo37 sz37 rda40 sz40 rda42 sz42 rda47 sz47 rdo50 sz50 rdo55 sz55 rdo57 sz57 rdo58 sz58 rdo59 sz59 rdo60 sz60 rdo64 sz64 rdo65 sz65 isb65 Tryd.underlying65 rda67 sz67 rdo71 sz71 ifx71 rdo90 sz90 rdo95 sz95 Tryd.underlying95 rdo105 sz105 rdo106 sz106 Tryd.underlying106 rdo107 sz107 Tryd.underlying107 rdo110 sz110 rda118 sz118 rdo120 sz120 rda122 sz122 rda124 sz124 rda131 sz131 rdo132 sz132 Tryd.underlying132 rda136 sz136 rda137 sz137
end Go.Proofs.YtcgmpcbkndpmbaaDoor

end
section
open Go Go.Proofs Go.Pw Go.RowKit
namespace Go.Proofs.YtcgmpcbkndpmbaaDoor
set_option maxRecDepth 4000
set_option linter.unusedVariables false
set_option linter.unusedSimpArgs false
theorem dropK_nil : ∀ l : List (Nat × Tok), dropK [] l = l
 | [] => by simp [dropK]
 | e :: r => by simp [dropK, inL, dropK_nil r]
theorem OkI.on1 {g0 : FuncId} {T : TypeId} {cs cs' ags : List PV} {R : PV} (i : Nat) {st : PS}
  (ok : OkI Tryd.prog g0 (.ptr 0 0 :: ags) ⟨[], [(0, .box T cs)], [], 1, 0⟩ (fun r st' => r = R /\ st'.heap = [(0, .box T cs')] /\ st'.toks = [] /\ st'.nx = 1))
  (hi : i < st.nx) (hcs : PV.ltL 0 0 cs = true) (hcs' : PV.ltL 0 0 cs' = true) (hag : PV.ltL 0 0 ags = true) (hR : R.lt 0 0 = true) (ho : lkp st.heap i = some (.box T cs)) :
  OkI Tryd.prog g0 (.ptr i 0 :: ags) st (fun r st' => r = R /\ ∃ nt', st.nt <= nt' /\ st' = ⟨st.env, (i, .box T cs') :: dropH [i] st.heap, st.toks, st.nx, nt'⟩) := by
 refine OkI.mono' (OkI.frameT [i] [] ok (by simp) (fun j hj => by rw [List.mem_singleton] at hj; subst hj; exact hi) (by simp) (fun j hj => by cases hj) (fun e he => ?_) (fun e he => by cases he) ?_ ?_) ?_
 ·simp only [List.mem_singleton] at he
  subst he
  refine ⟨Nat.zero_lt_one, ltL_low (Nat.zero_le 1) (Nat.zero_le 0) cs hcs, ?_⟩
  show lkp st.heap i = _
  rw [ho, PObj.rm, rmL_frz cs hcs]
 ·simp only [PV.ltL, PV.lt, List.length_singleton, Nat.zero_lt_one, decide_true, Bool.true_and]
  exact ltL_low (Nat.zero_le 1) (Nat.zero_le 0) ags hag
 ·rw [PV.rmL, rmL_frz ags hag]; rfl
 ·rintro r st' ⟨r0, s0, ⟨rfl, h3, h4, h5⟩, rfl, rfl⟩
  refine ⟨rm_frz r0 hR, s0.nt - 0 + st.nt, by omega, ?_⟩
  rw [h3, h4, h5]
  simp only [rmH, rmK, PObj.rm, rmL_frz cs' hcs', List.length_singleton, List.length_nil, List.cons_append, List.nil_append, dropK_nil]
  have : 1 - 1 + st.nx = st.nx := by omega
  rw [this]
  rfl
theorem OkI.on2 {g0 : FuncId} {T U : TypeId} {cs cs' ds ds' ags : List PV} {R : PV} (i j : Nat) {st : PS}
  (ok : OkI Tryd.prog g0 (.ptr 0 0 :: .ptr 1 0 :: ags) ⟨[], [(0, .box T cs), (1, .box U ds)], [], 2, 0⟩ (fun r st' => r = R /\ st'.heap = [(0, .box T cs'), (1, .box U ds')] /\ st'.toks = [] /\ st'.nx = 2))
  (hij : i ≠ j) (hi : i < st.nx) (hj : j < st.nx) (hcs : PV.ltL 0 0 cs = true) (hcs' : PV.ltL 0 0 cs' = true) (hds : PV.ltL 0 0 ds = true) (hds' : PV.ltL 0 0 ds' = true) (hag : PV.ltL 0 0 ags = true) (hR : R.lt 0 0 = true) (ho : lkp st.heap i = some (.box T cs)) (hp : lkp st.heap j = some (.box U ds)) :
  OkI Tryd.prog g0 (.ptr i 0 :: .ptr j 0 :: ags) st (fun r st' => r = R /\ ∃ nt', st.nt <= nt' /\ st' = ⟨st.env, (i, .box T cs') :: (j, .box U ds') :: dropH [i, j] st.heap, st.toks, st.nx, nt'⟩) := by
 refine OkI.mono' (OkI.frameT [i, j] [] ok (by simp [hij]) (fun k hk => by simp at hk; rcases hk with rfl | rfl <;> assumption) (by simp) (fun j hj => by cases hj) (fun e he => ?_) (fun e he => by cases he) ?_ ?_) ?_
 ·simp only [List.mem_cons, List.not_mem_nil, or_false] at he
  rcases he with rfl | rfl
  ·refine ⟨Nat.zero_lt_succ _, ltL_low (Nat.zero_le 2) (Nat.zero_le 0) cs hcs, ?_⟩
   show lkp st.heap i = _
   rw [ho, PObj.rm, rmL_frz cs hcs]
  ·refine ⟨Nat.lt_succ_self _, ltL_low (Nat.zero_le 2) (Nat.zero_le 0) ds hds, ?_⟩
   show lkp st.heap j = _
   rw [hp, PObj.rm, rmL_frz ds hds]
 ·simp only [PV.ltL, PV.lt, List.length_cons, List.length_nil, Nat.zero_add]
  have := ltL_low (Nat.zero_le 2) (Nat.zero_le 0) ags hag
  rw [this]
  rfl
 ·rw [PV.rmL, PV.rmL, rmL_frz ags hag]; rfl
 ·rintro r st' ⟨r0, s0, ⟨rfl, h3, h4, h5⟩, rfl, rfl⟩
  refine ⟨rm_frz r0 hR, s0.nt - 0 + st.nt, by omega, ?_⟩
  rw [h3, h4, h5]
  simp only [rmH, rmK, PObj.rm, rmL_frz cs' hcs', rmL_frz ds' hds', List.length_cons, List.length_nil, List.cons_append, List.nil_append, dropK_nil]
  have : 0 + 1 + 1 - (0 + 1 + 1) + st.nx = st.nx := by omega
  have h2 : 2 - (0 + 1 + 1) + st.nx = st.nx := by omega
  rw [h2]
  rfl
end Go.Proofs.YtcgmpcbkndpmbaaDoor

end
section
open Go Go.Proofs Go.RowKit
namespace Go.Proofs.YtcgmpcbkndpmbaaDoor
set_option maxRecDepth 4000
set_option linter.unusedVariables false
set_option linter.unusedSimpArgs false
def Heads (T n : Nat) : Prop := 0 < n /\ liesAt Tryd.prog Tryd.prog.depth T (n / Tryd.prog.cellsOf T) 0 67 1 = true
set_option maxHeartbeats 1000000 in
set_option maxRecDepth 100000 in
theorem copy_used (b : Nat) (w : World) (h0 : w.cell? ⟨b, 0, none⟩ = some (.pointer (some ⟨b, 0, none⟩))) :
  Calls Tryd.prog 46 #[.pointer (some ⟨b, 0, none⟩)] w fun e w' => e = .returned (.tuple #[]) /\ w' = w := by
 obtain ⟨j, hj, hjs⟩ := Option.map_eq_some_iff.1 (show (Tryd.prog.info? 67).map (·.size) = some 2 by kernel_rfl)
 go_enter Tryd.func46, Tryd.ntmps46
 go_wp2
 rw [Lib.run_neq_ptr_same w _ Tryd.underlying64 hj]
 go_wp2
 go_end0
 exact ⟨rfl, rfl⟩
set_option maxHeartbeats 1000000 in
set_option maxRecDepth 100000 in
theorem copy_fresh {T n : Nat} (hT : Heads T n) (b : Nat) (w : World) (h0 : w.cell? ⟨b, 0, none⟩ = some (.pointer none)) (hsh : w.shape? b = some (T, n)) (hfz : w.frozen? ⟨b, 0, none⟩ = false) :
  Calls Tryd.prog 46 #[.pointer (some ⟨b, 0, none⟩)] w fun e w' => e = .returned (.tuple #[]) /\ w' = w.setCell ⟨b, 0, none⟩ (.pointer (some ⟨b, 0, none⟩)) := by
 obtain ⟨j, hj, hjs⟩ := Option.map_eq_some_iff.1 (show (Tryd.prog.info? 67).map (·.size) = some 2 by kernel_rfl)
 obtain ⟨hn, hlies⟩ := hT
 go_enter Tryd.func46, Tryd.ntmps46
 go_wp2
 rw [Lib.run_to_unsafe w ⟨b, 0, none⟩ Tryd.underlying64 Tryd.underlying100 hj (by rw [hjs]; decide) hsh hn]
 simp only [Result.andThen]
 rw [Oper.upon_value]
 go_wp2
 rw [run_callFunc_extern Tryd.func60 (by kernel_rfl) (by kernel_rfl) (by kernel_rfl) (e := Extern.AbiNoEscape.same) (by kernel_rfl)]
 rw [Lib.run_noEscape]
 simp only [Result.andThen]
 rw [Oper.upon_value]
 go_wp2
 rw [Lib.run_from_unsafe w ⟨b, 0, none⟩ Tryd.underlying100 Tryd.underlying64 hj hsh hlies]
 simp only [Result.andThen]
 rw [Oper.upon_value]
 go_wp2
 go_end0
 exact ⟨rfl, rfl⟩
set_option maxHeartbeats 2000000 in
set_option maxRecDepth 100000 in
theorem string_nil (b : Nat) (w : World) (h1 : w.cell? ⟨b, 1, none⟩ = some (.slice none 0 0)) :
  Calls Tryd.prog 34 #[.pointer (some ⟨b, 0, none⟩)] w fun e w' => e = .returned (.string ⟨#[]⟩) /\ w' = w.drew := by
 have hUS : ∀ (W : World) (q : Option Addr), (Builtin.unsafeString_ #[90, 3] 9 #[.pointer q, .int .i64 0]).run Tryd.prog W = .ok (.string .empty) W := fun W q => Lib.run_unsafeString_none W _ _ _ q
 have c1 : w.drew.cell? ⟨b, 1, none⟩ = some (.slice none 0 0) := h1
 have hSD : (Builtin.unsafeSliceData_ #[65] 90 #[.slice none 0 0]).run Tryd.prog w.drew = .ok (.pointer none) w.drew := rfl
 have mixed : Tryd.prog.follows .mixedOrders = true := by kernel_rfl
 go_enter Tryd.func34, Tryd.ntmps34
 go_wp2
 go_region_o
 all_goals (go_wp2; go_ret; exact ⟨rfl, rfl⟩)
set_option maxHeartbeats 2000000 in
set_option maxRecDepth 100000 in
theorem string_some (b g cap : Nat) (w : World) (l : List UInt8) (h0 : l ≠ []) (hlc : l.length <= cap) (hcm : cap <= maxLen) (h1 : w.cell? ⟨b, 1, none⟩ = some (.slice (some ⟨g, 0, none⟩) l.length cap))
  (cur : Array Value) (hg : w.heap[g]? = some (.cells cur 5 (0, 0))) (hcs : cur.size = cap) (hc : ∀ (j : Nat) (x : UInt8), l[j]? = some x -> cur[j]? = some (Value.int .u8 x.toNat)) :
  Calls Tryd.prog 34 #[.pointer (some ⟨b, 0, none⟩)] w fun e w' => e = .returned (.string ⟨l.toArray⟩) /\ w' = w.drew.freeze ⟨g, 0, none⟩ l.length := by
 have hl0 : l.length ≠ 0 := by simpa using h0
 have c1 : w.drew.cell? ⟨b, 1, none⟩ = some (.slice (some ⟨g, 0, none⟩) l.length cap) := h1
 have hSD : (Builtin.unsafeSliceData_ #[65] 90 #[.slice (some ⟨g, 0, none⟩) l.length cap]).run Tryd.prog w.drew = .ok (.pointer (some ⟨g, 0, none⟩)) w.drew :=
  Lib.run_unsafeSliceData_row _ _ _ _ _ _ (by omega)
 have hUS : (Builtin.unsafeString_ #[90, 3] 9 #[.pointer (some ⟨g, 0, none⟩), .int .i64 l.length]).run Tryd.prog w.drew = .ok (.string ⟨l.toArray⟩) (w.drew.freeze ⟨g, 0, none⟩ l.length) := by
  refine Lib.run_unsafeString_row w.drew 90 3 9 5 Tryd.underlying90 (by kernel_rfl) g cur.size (by have hg' : w.drew.heap[g]? = some (.cells cur 5 (0, 0)) := hg; simp [World.shape?, hg']) l h0 (by omega) (by unfold maxLen at hcm; omega) ?_
  intro j x hx
  rw [Addr.add_lit, Nat.zero_add]
  have hg' : w.drew.heap[g]? = some (.cells cur 5 (0, 0)) := hg
  rw [Lib.cell_of_heap hg']
  exact hc j x hx
 have mixed : Tryd.prog.follows .mixedOrders = true := by kernel_rfl
 go_enter Tryd.func34, Tryd.ntmps34
 go_wp2
 go_region_o
 all_goals (go_wp2; go_ret; exact ⟨rfl, rfl⟩)
end Go.Proofs.YtcgmpcbkndpmbaaDoor

end
section
open Go Go.Proofs Go.Pw Go.RowKit
namespace Go.Proofs.YtcgmpcbkndpmbaaDoor
set_option maxRecDepth 4000
set_option linter.unusedVariables false
set_option linter.unusedSimpArgs false
section
variable {own : Nat -> Prop} {S0 : Base} {w0 w : World} {C : Cx} {U V : Nat -> Prop} {st : PS}
theorem setCell_row {vs : Array Value} {t : TypeId} {fr : Nat × Nat} {g i : Nat} (hg : w.heap[g]? = some (.cells vs t fr)) (v : Value) : w.setCell ⟨g, i, none⟩ v = w.setRow g (vs.setIfInBounds i v) := by
 unfold World.setCell World.setRow
 congr 1
 refine Array.ext_getElem? fun j => ?_
 simp only [Array.getElem?_modify]
 split
 ·rename_i h
  subst h
  rw [hg]
  rfl
 ·rfl
theorem Rel.toks_ (R : Rel own S0 w0 C U V st w) {T : List (Nat × Tok)} (hT : ∀ k t, lkp T k = some t -> lkp st.toks k = some t) : Rel own S0 w0 C U V { st with toks := T } w /\ Ext C C st.toks T U V U V := by
 have X : Ext C C st.toks T U V U V := ⟨SLe.refl _, fun _ _ => rfl, fun k t _ h => ⟨t, hT k t h, Nat.le_refl _, rfl, fun _ => rfl⟩, fun _ h => h, fun _ h => h⟩
 refine ⟨⟨R.frame, R.stable, fun id T' cs h => ?_, R.iter, R.hown, R.hinj, fun k t h => R.tok k t (hT k t h), fun i oi k t h1 h2 => R.tbox i oi k t h1 (hT k t h2), fun i j ti tj h1 h2 => R.tinj i j ti tj (hT _ _ h1) (hT _ _ h2), R.snew, R.sold, R.base.trans X, R.glob⟩, X⟩
 obtain ⟨vs, h1, h2, h3⟩ := R.box id T' cs h
 exact ⟨vs, h1, h2, fun i v p hv hp => ⟨(h3 i v p hv hp).1, (h3 i v p hv hp).2.ext X⟩⟩
theorem freeze_other (w : World) (g n k : Nat) (h : k ≠ g) : (w.freeze ⟨g, 0, none⟩ n).heap[k]? = w.heap[k]? := by
 unfold World.freeze
 split
 ·rfl
 ·simp [Array.getElem?_modify, Ne.symm h]
theorem freeze_cell (w : World) (g n b o : Nat) : (w.freeze ⟨g, 0, none⟩ n).cell? ⟨b, o, none⟩ = w.cell? ⟨b, o, none⟩ := by
 by_cases hb : b = g
 ·subst hb
  unfold World.freeze
  split
  ·rfl
  ·unfold World.cell?
   simp only [Array.getElem?_modify, if_true]
   cases w.heap[b]? with
   | none => rfl
   | some x => cases x <;> rfl
 ·exact World.cell?_of_block (freeze_other w g n b hb)
theorem Rel.freeze_ (R : Rel own S0 w0 C U V st w) {k : Nat} {t : Tok} (hk : lkp st.toks k = some t) {T : List (Nat × Tok)} (hT : ∀ j t, lkp T j = some t -> j ≠ k /\ lkp st.toks j = some t) (n : Nat) :
  Rel own S0 w0 C U V { st with toks := T } (w.freeze ⟨(C.τ k).1, 0, none⟩ n) /\ Ext C C st.toks T U V U V := by
 obtain ⟨R', X⟩ := Rel.toks_ R (T := T) fun j t h => (hT j t h).2
 have hown := (R.tok k t hk).2.1
 have hother : ∀ b, b ≠ (C.τ k).1 -> (w.freeze ⟨(C.τ k).1, 0, none⟩ n).heap[b]? = w.heap[b]? := fun b hb => freeze_other w _ n b hb
 have hsize : (w.freeze ⟨(C.τ k).1, 0, none⟩ n).heap.size = w.heap.size := by
  unfold World.freeze
  split
  ·rfl
  ·simp
 have hio : (w.freeze ⟨(C.τ k).1, 0, none⟩ n).os = w.os /\ (w.freeze ⟨(C.τ k).1, 0, none⟩ n).tape = w.tape /\ (w.freeze ⟨(C.τ k).1, 0, none⟩ n).output = w.output := by
  unfold World.freeze
  split <;> exact ⟨rfl, rfl, rfl⟩
 refine ⟨⟨⟨by rw [hio.1]; exact R.frame.os, by rw [hio.2.1]; exact R.frame.tape, by rw [hio.2.2]; exact R.frame.output, by rw [hsize]; exact R.frame.size, fun b hb hn => ?_⟩, fun b o v h => ?_, fun id T' cs h => ?_, fun id s pos h => ?_, fun id o h => ?_, R'.hinj, fun j t' h => ?_, R'.tbox, R'.tinj, R'.snew, R'.sold, R'.base, R'.glob⟩, X⟩
 ·rw [hother b (fun e => by subst e; rcases hown with h | h; exact hn h; omega)]
  exact R.frame.block b hb hn
 ·rw [freeze_cell]
  exact R.stable b o v h
 ·rw [hother _ (fun e => R.tbox id _ k t h hk e)]
  exact R'.box id T' cs h
 ·rw [hother _ (fun e => R.tbox id _ k t h hk e)]
  exact R.iter id s pos h
 ·rw [hsize]
  exact R.hown id o h
 ·rw [hother _ (fun e => (hT j t' h).1 (R.tinj j k t' t (hT j t' h).2 hk e))]
  exact R'.tok j t' h
end
abbrev vNP : PV := .val (.pointer none)
@[irreducible] def rowS (k : Nat) (s : ByteArray) : PV := if s.size = 0 then .val (.slice none 0 0) else .row k (encS s)
@[irreducible] def tokS (k : Nat) (e : TypeId) (s : ByteArray) : List (Nat × Tok) := if s.size = 0 then [] else [(k, ⟨e, 1, s.size⟩)]
def bldB (T : TypeId) (k : Nat) (a : PV) (s : ByteArray) (rest : List PV) : List (Nat × PObj) := [(0, .box T (a :: rowS k s :: rest))]
theorem three_of {vs : Array Value} {n : Nat} (h : vs.size = n + 2) : ∃ v0 v1 vr, vs = ⟨v0 :: v1 :: vr⟩ /\ vr.length = n := by
 cases vs with
 | mk l => match l, h with
  | v0 :: v1 :: vr, h => exact ⟨v0, v1, vr, rfl, by simpa using h⟩
theorem copy_ok {T : TypeId} {rest : List PV} (hT : Heads T (rest.length + 2)) (nx nt : Nat) (a b : PV) (TK : List (Nat × Tok)) (ha : a = vNP ∨ a = .ptr 0 0) :
  OkI Tryd.prog 46 [.ptr 0 0] ⟨[], [(0, .box T (a :: b :: rest))], TK, nx, nt⟩ (fun r st' => r = .tup [] /\ st' = ⟨[], [(0, .box T (.ptr 0 0 :: b :: rest))], TK, nx, nt⟩) := by
 refine ⟨by kernel_rfl, fun own S0 w0 w C vals R hn hr => ?_⟩
 have ho : lkp ([(0, PObj.box T (a :: b :: rest))] : List (Nat × PObj)) 0 = some (.box T (a :: b :: rest)) := by simp [lkp]
 obtain ⟨vs, hb, hs, hv⟩ := R.box 0 _ _ ho
 obtain ⟨v, rfl⟩ : ∃ v, vals = #[v] := by
  cases vals with
  | mk l => match l, hn with
   | [v], _ => exact ⟨v, rfl⟩
 obtain ⟨v0, v1, vr, rfl, hvr⟩ := three_of (n := rest.length) hs
 obtain ⟨rfl, hU⟩ := rep_ptr (hr 0 v _ rfl rfl)
 have h0 := hv 0 v0 a rfl rfl
 have hc : w.cell? ⟨C.ρ 0, 0, none⟩ = some v0 := by rw [Lib.cell_of_heap hb]; rfl
 rcases ha with rfl | rfl
 ·obtain ⟨rfl, _⟩ := rep_val h0.2
  refine (copy_fresh hT (C.ρ 0) w hc (by simp [World.shape?, hb, hvr]) (by simp [World.frozen?, hb])).mono ?_
  rintro e w' ⟨rfl, rfl⟩
  refine ⟨.tup [], _, .tuple #[], C, ⟨rfl, rfl⟩, rfl, ?_, Ext.refl _ _ _ _, .tup rfl (fun i v p hv hp => by simp at hp)⟩
  have R' := R.store (id := 0) (T := T) ho (cs' := .ptr 0 0 :: b :: rest) (vs' := ⟨.pointer (some ⟨C.ρ 0, 0, none⟩) :: v1 :: vr⟩) ⟨by simpa using hvr, fun i v p hv' hp => by
   match i with
   | 0 => simp at hv' hp; subst hv' hp; exact ⟨rfl, .ptr hU⟩
   | i + 1 => exact hv (i + 1) v p (by simpa using hv') (by simpa using hp)⟩
  rw [setCell_row hb]
  have eu : upd [(0, PObj.box T (vNP :: b :: rest))] 0 (.box T (.ptr 0 0 :: b :: rest)) = [(0, .box T (.ptr 0 0 :: b :: rest))] := by simp [upd]
  rw [<- eu]
  exact R'
 ·obtain ⟨rfl, _⟩ := rep_ptr h0.2
  refine (copy_used (C.ρ 0) w hc).mono ?_
  rintro e w' ⟨rfl, rfl⟩
  exact ⟨.tup [], _, .tuple #[], C, ⟨rfl, rfl⟩, rfl, R, Ext.refl _ _ _ _, .tup rfl (fun i v p hv hp => by simp at hp)⟩
theorem string_ok0 (T : TypeId) (s : ByteArray) (k nx nt : Nat) (a : PV) (rest : List PV) :
  OkI Tryd.prog 34 [.ptr 0 0] ⟨[], bldB T k a s rest, tokS k 5 s, nx, nt⟩ (fun r st' => r = .val (.string s) /\ st' = ⟨[], bldB T k a s rest, [], nx, nt⟩) := by
 refine ⟨by kernel_rfl, fun own S0 w0 w C vals R hn hr => ?_⟩
 have ho : lkp (bldB T k a s rest) 0 = some (.box T (a :: rowS k s :: rest)) := by simp [bldB, lkp]
 obtain ⟨vs, hb, hs, hv⟩ := R.box 0 _ _ ho
 obtain ⟨v, rfl⟩ : ∃ v, vals = #[v] := by
  cases vals with
  | mk l => match l, hn with
   | [v], _ => exact ⟨v, rfl⟩
 obtain ⟨v0, v1, vr, rfl, hvr⟩ := three_of (n := rest.length) hs
 obtain ⟨rfl, hU⟩ := rep_ptr (hr 0 v _ rfl rfl)
 have h1 := hv 1 v1 (rowS k s) rfl rfl
 have hc : w.cell? ⟨C.ρ 0, 1, none⟩ = some v1 := by rw [Lib.cell_of_heap hb]; rfl
 by_cases h0 : s.size = 0
 ·have es : s = ⟨#[]⟩ := by
   cases s with
   | mk d => congr 1; exact Array.size_eq_zero_iff.1 h0
  simp only [rowS, h0, if_true] at h1
  obtain ⟨rfl, _⟩ := rep_val h1.2
  have eT : tokS k 5 s = [] := by simp [tokS, h0]
  refine (string_nil (C.ρ 0) w hc).mono ?_
  rintro e w' ⟨rfl, rfl⟩
  rw [eT] at R ⊢
  exact ⟨.val (.string s), _, .string ⟨#[]⟩, C, ⟨rfl, rfl⟩, rfl, R.drew, Ext.refl _ _ _ _, by rw [es]; exact .frz (.val rfl)⟩
 ·have eT : tokS k 5 s = [(k, ⟨5, 1, s.size⟩)] := by simp [tokS, h0]
  simp only [rowS, h0, if_false] at h1
  rw [eT] at R h1
  have hk : lkp [(k, (⟨5, 1, s.size⟩ : Tok))] k = some ⟨5, 1, s.size⟩ := by simp [lkp]
  obtain ⟨hV, hown, ⟨cur, hcur, hcs⟩, hnc, hcm, hS⟩ := R.tok k _ hk
  have hlen : (encS s).length = s.size := by simp [encS]
  have hll : s.data.toList.length = s.size := by simp
  have hval : v1 = .slice (some ⟨(C.τ k).1, 0, none⟩) s.data.toList.length (C.τ k).2 := by
   rw [hll]
   have h2 := h1.2
   cases h2 with
   | frz h => cases h
   | row g1 g2 g3 => exact (g3 _ hk).2.2 hlen
  have hxf := rep_sl (.inr ⟨_, h1.2⟩)
  have hcells : ∀ (j : Nat) (x : UInt8), s.data.toList[j]? = some x -> cur[j]? = some (Value.int .u8 x.toNat) := by
   intro j x hx
   have hj : j < (encS s).length := by rw [hlen]; have := (List.getElem?_eq_some_iff.1 hx).1; omega
   rw [hval] at hxf
   generalize hvv : Value.slice (some ⟨(C.τ k).1, 0, none⟩) s.data.toList.length (C.τ k).2 = v at hxf
   have hxs : (encS s)[j]? = some [.val (.int .u8 x.toNat)] := by simp [encS, hx]
   cases hxf with
   | @sl A n cc sz' _ f hn' hcc hsz' hA hrr =>
    injection hvv with g1 g2 g3
    subst g1
    obtain ⟨b, o', e3, hS'⟩ := hA (by omega)
    injection e3 with e3
    injection e3 with e3 e4
    subst e3 e4
    have e5 : sz' = 1 := (hsz' _ (List.mem_of_getElem? hxs)).symm
    subst e5
    have h1 := R.stable _ _ _ (hS' j 0 (by omega) (by omega))
    rw [cell_of_row w _ _ cur 5 (0, 0) hcur] at h1
    have h2 := hrr j 0 _ _ hxs rfl
    rw [show f j 0 = Value.int .u8 x.toNat from by generalize f j 0 = u at h2; cases h2; rfl] at h1
    simpa using h1
  rw [hval] at hc
  refine (string_some (C.ρ 0) (C.τ k).1 (C.τ k).2 w s.data.toList (fun h => h0 (by rw [<- hll, h]; rfl)) (by rw [hll]; exact hnc) hcm hc cur hcur (by rw [hcs, Nat.mul_one]) hcells).mono ?_
  rintro e w' ⟨rfl, rfl⟩
  obtain ⟨R', X⟩ := Rel.freeze_ (R.drew) (k := k) hk (T := []) (fun j t h => by cases h) s.data.toList.length
  rw [eT]
  exact ⟨.val (.string s), _, .string ⟨s.data.toList.toArray⟩, C, ⟨rfl, rfl⟩, rfl, R', X, .frz (by
   have : (⟨s.data.toList.toArray⟩ : ByteArray) = s := by simp
   rw [this]; exact .val rfl)⟩
end Go.Proofs.YtcgmpcbkndpmbaaDoor

end
section
open Go Go.Proofs Go.Pw Go.RowKit
namespace Go.Proofs.YtcgmpcbkndpmbaaDoor
set_option maxRecDepth 4000
set_option linter.unusedVariables false
set_option linter.unusedSimpArgs false
attribute [local go_sem] Delta.val Nat.le_refl Tryd.results31 sliceLike
def bldQ (T : TypeId) (s : ByteArray) (rest : List PV) (R : PV) (r : PV) (st : PS) : Prop := r = R /\ ∃ k, k < st.nt /\ 1 <= st.nt /\ st.nx = 1 /\ st.heap = bldB T k (.ptr 0 0) s rest /\ st.toks = tokS k 5 s
theorem rowS_rm (f g : Nat -> Nat) (k : Nat) (s : ByteArray) : (rowS k s).rm f g = rowS (g k) s := by unfold rowS; split <;> rfl
theorem tokS_rm (g : Nat -> Nat) (k : Nat) (s : ByteArray) (e : TypeId) : rmK g (tokS k e s) = tokS (g k) e s := by unfold tokS; split <;> rfl
theorem rowS_lt (a b k : Nat) (s : ByteArray) (h : k < b) : (rowS k s).lt a b = true := by unfold rowS; split <;> simp [PV.lt, h]
theorem app_s0 {e : TypeId} {b tk : Nat} {st : PS} {K : Delta -> Prop} {d : PV} {t : ByteArray} (h0 : t.size = 0) : appS e b st tk K d (.val (.string t)) = (sliceLike d = true /\ K (.val d)) := by
 have hn := encS_len t
 unfold appS
 simp only
 generalize encS t = l at *
 cases l with
 | nil => rfl
 | cons y r => simp at hn; omega
theorem bld_at0 {g0 : FuncId} {T : TypeId} {s s' : ByteArray} {a' : PV} {rest as0 : List PV} {R : PV} (i k : Nat) {st : PS}
  (ok : ∀ a, (a = vNP ∨ a = .ptr 0 0) -> a.rm (rnF [i] st.nx) (rnF [k] st.nt) = a' -> OkI Tryd.prog g0 (.ptr 0 0 :: as0) ⟨[], bldB T 0 a s rest, tokS 0 5 s, 1, 1⟩ (bldQ T s' rest R))
  (hi : i < st.nx) (hk : k < st.nt) (ha : a' = vNP ∨ a' = .ptr i 0) (hrest : PV.ltL 0 0 rest = true) (has : PV.ltL 0 0 as0 = true) (hR : R.lt 0 0 = true)
  (ho : lkp st.heap i = some (.box T (a' :: rowS k s :: rest))) (ht : s.size ≠ 0 -> lkp st.toks k = some ⟨5, 1, s.size⟩) :
  OkI Tryd.prog g0 (.ptr i 0 :: as0) st (fun r st' => r = R /\ ∃ k' nt', k' < nt' /\ st.nt <= nt' /\ st' = ⟨st.env, (i, .box T (.ptr i 0 :: rowS k' s' :: rest)) :: dropH [i] st.heap, tokS k' 5 s' ++ dropK [k] st.toks, st.nx, nt'⟩) := by
 obtain ⟨a, hca, haa⟩ : ∃ a, (a = vNP ∨ a = .ptr 0 0) /\ a.rm (rnF [i] st.nx) (rnF [k] st.nt) = a' /\ a.lt 1 1 = true := by
  rcases ha with rfl | rfl
  ·exact ⟨vNP, .inl rfl, rfl, rfl⟩
  ·exact ⟨.ptr 0 0, .inr rfl, rfl, rfl⟩
 refine OkI.mono' (OkI.frameT [i] [k] (ok a hca haa.1) (by simp) (fun j hj => by rw [List.mem_singleton] at hj; subst hj; exact hi) (by simp) (fun j hj => by rw [List.mem_singleton] at hj; subst hj; exact hk) (fun e he => ?_) (fun e he => ?_) ?_ ?_) ?_
 ·simp only [bldB, List.mem_singleton] at he
  subst he
  refine ⟨Nat.zero_lt_one, ?_, ?_⟩
  ·simp only [PObj.lt, PV.ltL, haa.2, rowS_lt 1 1 0 s Nat.zero_lt_one, ltL_low (Nat.zero_le 1) (Nat.zero_le 1) rest hrest, Bool.and_self, List.length_singleton]
  ·show lkp st.heap i = _
   rw [ho, PObj.rm, PV.rmL, PV.rmL, haa.1, rowS_rm, rmL_frz rest hrest]
   rfl
 ·unfold tokS at he
  split at he
  ·cases he
  ·rename_i h0
   rw [List.mem_singleton] at he
   subst he
   exact ⟨Nat.zero_lt_one, ht h0⟩
 ·simp only [PV.ltL, PV.lt, List.length_singleton, Nat.zero_lt_one, decide_true, Bool.true_and]
  exact ltL_low (Nat.zero_le 1) (Nat.zero_le 1) as0 has
 ·rw [PV.rmL, rmL_frz as0 has]; rfl
 ·rintro r st' ⟨r0, s0, ⟨rfl, k0, h1, h2, h3, h4, h5⟩, rfl, rfl⟩
  refine ⟨rm_frz r0 hR, rnF [k] st.nt k0, s0.nt - 1 + st.nt, ?_, by omega, ?_⟩
  ·cases k0 with
   | zero => show k < _; omega
   | succ n => rw [rnF_high (l := [k]) (n + 1) (by simp)]; simp only [List.length_singleton]; omega
  ·rw [h3, h4, h5, tokS_rm]
   simp only [bldB, rmH, PObj.rm, PV.rmL, rowS_rm, rmL_frz rest hrest, List.length_singleton, List.cons_append, List.nil_append]
   have : 1 - 1 + st.nx = st.nx := by omega
   rw [this]
   rfl
theorem bld_at {g0 : FuncId} {T : TypeId} {s s' : ByteArray} {a' : PV} {rest as0 : List PV} {R : PV} (i k : Nat) {st : PS}
  (ok : ∀ a, (a = vNP ∨ a = .ptr 0 0) -> OkI Tryd.prog g0 (.ptr 0 0 :: as0) ⟨[], bldB T 0 a s rest, tokS 0 5 s, 1, 1⟩ (bldQ T s' rest R))
  (hi : i < st.nx) (hk : k < st.nt) (ha : a' = vNP ∨ a' = .ptr i 0) (hrest : PV.ltL 0 0 rest = true) (has : PV.ltL 0 0 as0 = true) (hR : R.lt 0 0 = true)
  (ho : lkp st.heap i = some (.box T (a' :: rowS k s :: rest))) (ht : s.size ≠ 0 -> lkp st.toks k = some ⟨5, 1, s.size⟩) :
  OkI Tryd.prog g0 (.ptr i 0 :: as0) st (fun r st' => r = R /\ ∃ k' nt', k' < nt' /\ st.nt <= nt' /\ st' = ⟨st.env, (i, .box T (.ptr i 0 :: rowS k' s' :: rest)) :: dropH [i] st.heap, tokS k' 5 s' ++ dropK [k] st.toks, st.nx, nt'⟩) :=
 bld_at0 i k (fun a h _ => ok a h) hi hk ha hrest has hR ho ht
theorem string_at {T : TypeId} {s : ByteArray} {a' : PV} {rest : List PV} (i k : Nat) {st : PS} (hi : i < st.nx) (hk : k < st.nt) (ha : a' = vNP ∨ a' = .ptr i 0) (hrest : PV.ltL 0 0 rest = true)
  (ho : lkp st.heap i = some (.box T (a' :: rowS k s :: rest))) (ht : s.size ≠ 0 -> lkp st.toks k = some ⟨5, 1, s.size⟩) :
  OkI Tryd.prog 34 [.ptr i 0] st (fun r st' => r = vS s /\ st' = ⟨st.env, (i, .box T (a' :: rowS k s :: rest)) :: dropH [i] st.heap, dropK [k] st.toks, st.nx, st.nt⟩) := by
 obtain ⟨a, hca, haa⟩ : ∃ a, (a = vNP ∨ a = .ptr 0 0) /\ a.rm (rnF [i] st.nx) (rnF [k] st.nt) = a' /\ a.lt 1 1 = true := by
  rcases ha with rfl | rfl
  ·exact ⟨vNP, .inl rfl, rfl, rfl⟩
  ·exact ⟨.ptr 0 0, .inr rfl, rfl, rfl⟩
 refine OkI.mono' (OkI.frameT [i] [k] (string_ok0 T s 0 1 1 a rest) (by simp) (fun j hj => by rw [List.mem_singleton] at hj; subst hj; exact hi) (by simp) (fun j hj => by rw [List.mem_singleton] at hj; subst hj; exact hk) (fun e he => ?_) (fun e he => ?_) rfl rfl) ?_
 ·simp only [bldB, List.mem_singleton] at he
  subst he
  refine ⟨Nat.zero_lt_one, ?_, ?_⟩
  ·simp only [PObj.lt, PV.ltL, haa.2, rowS_lt 1 1 0 s Nat.zero_lt_one, ltL_low (Nat.zero_le 1) (Nat.zero_le 1) rest hrest, Bool.and_self, List.length_singleton]
  ·show lkp st.heap i = _
   rw [ho, PObj.rm, PV.rmL, PV.rmL, haa.1, rowS_rm, rmL_frz rest hrest]
   rfl
 ·unfold tokS at he
  split at he
  ·cases he
  ·rename_i h0
   rw [List.mem_singleton] at he
   subst he
   exact ⟨Nat.zero_lt_one, ht h0⟩
 ·rintro r st' ⟨r0, s0, ⟨rfl, rfl⟩, rfl, rfl⟩
  refine ⟨rfl, ?_⟩
  simp only [bldB, rmH, rmK, PObj.rm, PV.rmL, rowS_rm, haa.1, rmL_frz rest hrest, List.length_singleton, List.cons_append, List.nil_append]
  have : 1 - 1 + st.nx = st.nx := by omega
  have h2 : 1 - 1 + st.nt = st.nt := by omega
  rw [this, h2]
  rfl
set_option maxHeartbeats 4000000 in
theorem writeS_ok {T : TypeId} {rest : List PV} (hT : Heads T (rest.length + 2)) (hrest : PV.ltL 0 0 rest = true) (s t : ByteArray) (hl : s.size + t.size <= 1000000) (a : PV) (ha : a = vNP ∨ a = .ptr 0 0) :
  OkI Tryd.prog 31 [.ptr 0 0, vS t] ⟨[], bldB T 0 a s rest, tokS 0 5 s, 1, 1⟩ (bldQ T (s ++ t) rest (.tup [vI t.size, .val .nilIface])) := by
 refine OkI.of_pwp (by kernel_rfl) Tryd.func31 rfl (by kernel_rfl) (by kernel_rfl) ?_
 have hst : (s ++ t).size = s.size + t.size := by simp
 have hlt : ∀ (a b : Nat), PV.ltL a b rest = true := fun a b => ltL_low (Nat.zero_le a) (Nat.zero_le b) rest hrest
 by_cases ht : t.size = 0
 ·have et : s ++ t = s := by
   have : t = ByteArray.empty := by
    cases t with
    | mk d => congr 1; exact Array.size_eq_zero_iff.1 ht
   rw [this]
   simp
  by_cases hs : s.size = 0
  ·simp only [bldB, rowS, tokS, hs, if_true]
   simp (implicitDefEqProofs := false) (disch := omega) only [go_sem, simprocAttr, app_s0]
   refine CallOk.ofI (copy_ok hT _ _ _ _ [] ha) rfl rfl rfl rfl ?_
   rintro r st1 ⟨rfl, rfl⟩
   simp (implicitDefEqProofs := false) (disch := omega) only [go_sem, simprocAttr, app_s0]
   rw [et]
   refine ⟨⟨[], bldB T 0 (.ptr 0 0) s rest, tokS 0 5 s, 1, 1⟩, ⟨rfl, 0, by simp only; omega, by simp only; omega, rfl, rfl, rfl⟩, ?_⟩
   simp only [bldB, rowS, tokS, hs, if_true]
   constructor <;> simp only [go_sem, simprocAttr, decide_eq_true_eq, ite_self, hlt] <;> try ((repeat' apply And.intro) <;> first | rfl | omega | (congr 3; omega) | (congr 2; omega))
  ·simp only [bldB, rowS, tokS, hs, if_false]
   simp (implicitDefEqProofs := false) (disch := omega) only [go_sem, simprocAttr, app_s0]
   refine CallOk.ofI (copy_ok hT _ _ _ _ _ ha) rfl rfl rfl rfl ?_
   rintro r st1 ⟨rfl, rfl⟩
   simp (implicitDefEqProofs := false) (disch := omega) only [go_sem, simprocAttr, app_s0]
   rw [et]
   refine ⟨⟨[], bldB T 0 (.ptr 0 0) s rest, tokS 0 5 s, 1, 1⟩, ⟨rfl, 0, by simp only; omega, by simp only; omega, rfl, rfl, rfl⟩, ?_⟩
   simp only [bldB, rowS, tokS, hs, if_false]
   constructor <;> simp only [go_sem, simprocAttr, decide_eq_true_eq, ite_self, hlt] <;> try ((repeat' apply And.intro) <;> first | rfl | omega | (congr 3; omega) | (congr 2; omega))
 have hne : ¬ (s ++ t).size = 0 := by omega
 by_cases hs : s.size = 0
 ·have es : s ++ t = t := by
   have : s = ByteArray.empty := by
    cases s with
    | mk d => congr 1; exact Array.size_eq_zero_iff.1 hs
   rw [this]
   simp
  simp only [bldB, rowS, tokS, hs, if_true]
  simp (implicitDefEqProofs := false) (disch := omega) only [go_sem, simprocAttr, app_s0]
  refine CallOk.ofI (copy_ok hT _ _ _ _ [] ha) rfl rfl rfl rfl ?_
  rintro r st1 ⟨rfl, rfl⟩
  simp (implicitDefEqProofs := false) (disch := omega) only [go_sem, simprocAttr, app_s0]
  rw [es]
  refine ⟨⟨[], bldB T (1 + 2 + 1 + 2 + 6) (.ptr 0 0) t rest, tokS (1 + 2 + 1 + 2 + 6) 5 t, 1, 1 + 2 + 1 + 2 + 10⟩, ⟨rfl, 1 + 2 + 1 + 2 + 6, by simp only; omega, by simp only; omega, rfl, rfl, rfl⟩, ?_⟩
  simp only [bldB, rowS, tokS, ht, if_false]
  constructor <;> simp only [go_sem, simprocAttr, decide_eq_true_eq, ite_self, hlt] <;> try ((repeat' apply And.intro) <;> first | rfl | omega | (congr 3; omega) | (congr 2; omega))
 ·simp only [bldB, rowS, tokS, hs, if_false]
  simp (implicitDefEqProofs := false) (disch := omega) only [go_sem, simprocAttr, app_s0]
  refine CallOk.ofI (copy_ok hT _ _ _ _ _ ha) rfl rfl rfl rfl ?_
  rintro r st1 ⟨rfl, rfl⟩
  simp (implicitDefEqProofs := false) (disch := omega) only [go_sem, simprocAttr, app_s0]
  refine ⟨⟨[], bldB T 0 (.ptr 0 0) (s ++ t) rest, tokS 0 5 (s ++ t), 1, 1⟩, ⟨rfl, 0, by simp only; omega, by simp only; omega, rfl, rfl, rfl⟩, ?_⟩
  simp only [bldB, rowS, tokS, hne, if_false]
  simp only [hst]
  constructor <;> simp only [go_sem, simprocAttr, decide_eq_true_eq, ite_self, hlt] <;> try ((repeat' apply And.intro) <;> first | rfl | omega | (congr 3; omega) | (congr 2; omega))
end Go.Proofs.YtcgmpcbkndpmbaaDoor

end
section
open Go Go.Proofs Go.Pw Go.RowKit
namespace Go.Proofs.YtcgmpcbkndpmbaaDoor
set_option maxRecDepth 4000
set_option linter.unusedVariables false
set_option linter.unusedSimpArgs false
def bldP (T : TypeId) (i k : Nat) (st : PS) (s' : ByteArray) (rest : List PV) (R : PV) (r : PV) (st' : PS) : Prop := r = R /\ ∃ k' nt', k' < nt' /\ st.nt <= nt' /\ st' = ⟨st.env, (i, .box T (.ptr i 0 :: rowS k' s' :: rest)) :: dropH [i] st.heap, tokS k' 5 s' ++ dropK [k] st.toks, st.nx, nt'⟩
theorem writeS_at {T : TypeId} {rest : List PV} (hT : Heads T (rest.length + 2)) (hrest : PV.ltL 0 0 rest = true) {s t : ByteArray} {a' : PV} (i k : Nat) {st : PS} (hl : s.size + t.size <= 1000000) (hi : i < st.nx) (hk : k < st.nt) (ha : a' = vNP ∨ a' = .ptr i 0)
  (ho : lkp st.heap i = some (.box T (a' :: rowS k s :: rest))) (ht : s.size ≠ 0 -> lkp st.toks k = some ⟨5, 1, s.size⟩) : OkI Tryd.prog 31 [.ptr i 0, vS t] st (bldP T i k st (s ++ t) rest (.tup [vI t.size, .val .nilIface])) :=
 bld_at i k (writeS_ok hT hrest s t hl) hi hk ha hrest rfl rfl ho ht
end Go.Proofs.YtcgmpcbkndpmbaaDoor

end
