/-
  The types of this seat's program: sizes, zero values, the rules by which their operations are rewritten.
-/
import Derived.Test.YtfhdokpcnkpcpaaProg
import Derived.Test.YtfhdokpcnkpcpaaPwX
namespace Go.Proofs.Ytfhdokpcnkpcpaa
open Go Go.Pw
set_option linter.unusedVariables false
-- 1: func()
theorem ag1 : aggT Try.prog 1 = some false := by kernel_rfl
theorem sz1 : sizeOf? Try.prog 1 = some 1 := by kernel_rfl
theorem z1 : zeroOf? Try.prog 1 = some (.nilFunc) := by kernel_rfl
theorem rdo1 {cs : List PV} {off : Nat} : readCells Try.prog 1 cs off = cs[off]? := rd_one ag1
-- 2: int64
theorem ag2 : aggT Try.prog 2 = some false := by kernel_rfl
theorem sz2 : sizeOf? Try.prog 2 = some 1 := by kernel_rfl
theorem z2 : zeroOf? Try.prog 2 = some (.int .i64 0) := by kernel_rfl
theorem rdo2 {cs : List PV} {off : Nat} : readCells Try.prog 2 cs off = cs[off]? := rd_one ag2
theorem by2 : bytesOf? Try.prog 2 = some 8 := by kernel_rfl
theorem alc2 {dr : Bool} {st : PS} {id tk : Nat} {K : PS → Prop} {d : Option Tmp} {ty : TypeId} {pos : String} {af : Array Edge} {g : Option (Nat × Bool)} : stepN dr Try.prog ⟨d, .alloc 2, ty, pos, af, g⟩ st id tk K = K (PS.put { st with heap := (id, .box 2 [.val (.int .i64 0)]) :: st.heap } d (.ptr id 0)) := s_allocC z2 rfl rfl
-- 3: int
theorem ag3 : aggT Try.prog 3 = some false := by kernel_rfl
theorem sz3 : sizeOf? Try.prog 3 = some 1 := by kernel_rfl
theorem z3 : zeroOf? Try.prog 3 = some (.int .i64 0) := by kernel_rfl
theorem rdo3 {cs : List PV} {off : Nat} : readCells Try.prog 3 cs off = cs[off]? := rd_one ag3
theorem by3 : bytesOf? Try.prog 3 = some 8 := by kernel_rfl
theorem alc3 {dr : Bool} {st : PS} {id tk : Nat} {K : PS → Prop} {d : Option Tmp} {ty : TypeId} {pos : String} {af : Array Edge} {g : Option (Nat × Bool)} : stepN dr Try.prog ⟨d, .alloc 3, ty, pos, af, g⟩ st id tk K = K (PS.put { st with heap := (id, .box 3 [.val (.int .i64 0)]) :: st.heap } d (.ptr id 0)) := s_allocC z3 rfl rfl
-- 4: bool
theorem ag4 : aggT Try.prog 4 = some false := by kernel_rfl
theorem sz4 : sizeOf? Try.prog 4 = some 1 := by kernel_rfl
theorem z4 : zeroOf? Try.prog 4 = some (.bool false) := by kernel_rfl
theorem rdo4 {cs : List PV} {off : Nat} : readCells Try.prog 4 cs off = cs[off]? := rd_one ag4
theorem by4 : bytesOf? Try.prog 4 = some 1 := by kernel_rfl
theorem alc4 {dr : Bool} {st : PS} {id tk : Nat} {K : PS → Prop} {d : Option Tmp} {ty : TypeId} {pos : String} {af : Array Edge} {g : Option (Nat × Bool)} : stepN dr Try.prog ⟨d, .alloc 4, ty, pos, af, g⟩ st id tk K = K (PS.put { st with heap := (id, .box 4 [.val (.bool false)]) :: st.heap } d (.ptr id 0)) := s_allocC z4 rfl rfl
-- 5: uint8
theorem ag5 : aggT Try.prog 5 = some false := by kernel_rfl
theorem sz5 : sizeOf? Try.prog 5 = some 1 := by kernel_rfl
theorem z5 : zeroOf? Try.prog 5 = some (.int .u8 0) := by kernel_rfl
theorem rdo5 {cs : List PV} {off : Nat} : readCells Try.prog 5 cs off = cs[off]? := rd_one ag5
theorem by5 : bytesOf? Try.prog 5 = some 1 := by kernel_rfl
theorem alc5 {dr : Bool} {st : PS} {id tk : Nat} {K : PS → Prop} {d : Option Tmp} {ty : TypeId} {pos : String} {af : Array Edge} {g : Option (Nat × Bool)} : stepN dr Try.prog ⟨d, .alloc 5, ty, pos, af, g⟩ st id tk K = K (PS.put { st with heap := (id, .box 5 [.val (.int .u8 0)]) :: st.heap } d (.ptr id 0)) := s_allocC z5 rfl rfl
-- 9: string
theorem ag9 : aggT Try.prog 9 = some false := by kernel_rfl
theorem sz9 : sizeOf? Try.prog 9 = some 1 := by kernel_rfl
theorem z9 : zeroOf? Try.prog 9 = some (.string ByteArray.empty) := by kernel_rfl
theorem rdo9 {cs : List PV} {off : Nat} : readCells Try.prog 9 cs off = cs[off]? := rd_one ag9
theorem by9 : bytesOf? Try.prog 9 = some 16 := by kernel_rfl
theorem alc9 {dr : Bool} {st : PS} {id tk : Nat} {K : PS → Prop} {d : Option Tmp} {ty : TypeId} {pos : String} {af : Array Edge} {g : Option (Nat × Bool)} : stepN dr Try.prog ⟨d, .alloc 9, ty, pos, af, g⟩ st id tk K = K (PS.put { st with heap := (id, .box 9 [.val (.string ByteArray.empty)]) :: st.heap } d (.ptr id 0)) := s_allocC z9 rfl rfl
theorem rng9 {dr : Bool} {st : PS} {id tk : Nat} {K : PS → Prop} {d : Option Tmp} {ty : TypeId} {pos : String} {af : Array Edge} {g : Option (Nat × Bool)} {x : Operand} : stepN dr Try.prog ⟨d, .range 9 x, ty, pos, af, g⟩ st id tk K = bindO (st.ev x) (rngP id d st K) := s_range Try.underlying9
theorem lns9 {st : PS} {x : Operand} {K : PV → Prop} : lenK Try.prog st 9 x K = bindO (st.ev x) (lenS K) := len_string Try.underlying9
theorem ixs9 {st : PS} {x y : Operand} {K : PV → Prop} : indexK Try.prog st 9 x y K = bindO (st.ev x) fun p => bindO (st.ev y) fun q => intK q fun i => ixS i K p := ix_string Try.underlying9
theorem sls9 {st : PS} {x : Operand} {lo hi : Option Operand} {K : PV → Prop} : sliceK Try.prog st 9 x lo hi K = bindO (st.ev x) (slcS st lo hi K) := slc_string Try.underlying9
-- 12: uintptr
theorem ag12 : aggT Try.prog 12 = some false := by kernel_rfl
theorem sz12 : sizeOf? Try.prog 12 = some 1 := by kernel_rfl
theorem z12 : zeroOf? Try.prog 12 = some (.int .u64 0) := by kernel_rfl
theorem rdo12 {cs : List PV} {off : Nat} : readCells Try.prog 12 cs off = cs[off]? := rd_one ag12
theorem by12 : bytesOf? Try.prog 12 = some 8 := by kernel_rfl
theorem alc12 {dr : Bool} {st : PS} {id tk : Nat} {K : PS → Prop} {d : Option Tmp} {ty : TypeId} {pos : String} {af : Array Edge} {g : Option (Nat × Bool)} : stepN dr Try.prog ⟨d, .alloc 12, ty, pos, af, g⟩ st id tk K = K (PS.put { st with heap := (id, .box 12 [.val (.int .u64 0)]) :: st.heap } d (.ptr id 0)) := s_allocC z12 rfl rfl
-- 13: struct { msg string; addr uintptr }
theorem ag13 : aggT Try.prog 13 = some true := by kernel_rfl
theorem sz13 : sizeOf? Try.prog 13 = some 2 := by kernel_rfl
theorem z13 : zeroOf? Try.prog 13 = some (.agg #[.string ByteArray.empty, .int .u64 0]) := by kernel_rfl
theorem rda13 {cs : List PV} {off : Nat} : readCells Try.prog 13 cs off = if off + 2 ≤ cs.length then some (.agg ((cs.drop off).take 2)) else none := rd_agg ag13 sz13
theorem by13 : bytesOf? Try.prog 13 = some 24 := by kernel_rfl
theorem alc13 {dr : Bool} {st : PS} {id tk : Nat} {K : PS → Prop} {d : Option Tmp} {ty : TypeId} {pos : String} {af : Array Edge} {g : Option (Nat × Bool)} : stepN dr Try.prog ⟨d, .alloc 13, ty, pos, af, g⟩ st id tk K = K (PS.put { st with heap := (id, .box 13 [.val (.string ByteArray.empty), .val (.int .u64 0)]) :: st.heap } d (.ptr id 0)) := s_allocC z13 rfl rfl
theorem fa13_0 {st : PS} {x : Operand} {K : PV → Prop} : fieldAddrK Try.prog st 13 x 0 K = bindO (st.ev x) (fldP 0 K) :=
  fld_ (P := Try.prog) (st := st) (x := x) (K := K) (f := 0) Try.underlying13 rfl sz9 (by decide)
theorem fi13_0 {st : PS} {x : Operand} {K : PV → Prop} : fieldK Try.prog st 13 x 0 K = bindO (st.ev x) (fieldP Try.prog 9 0 K) :=
  field_ (P := Try.prog) (st := st) (x := x) (K := K) (f := 0) Try.underlying13 rfl
theorem fa13_1 {st : PS} {x : Operand} {K : PV → Prop} : fieldAddrK Try.prog st 13 x 1 K = bindO (st.ev x) (fldP 1 K) :=
  fld_ (P := Try.prog) (st := st) (x := x) (K := K) (f := 1) Try.underlying13 rfl sz12 (by decide)
theorem fi13_1 {st : PS} {x : Operand} {K : PV → Prop} : fieldK Try.prog st 13 x 1 K = bindO (st.ev x) (fieldP Try.prog 12 1 K) :=
  field_ (P := Try.prog) (st := st) (x := x) (K := K) (f := 1) Try.underlying13 rfl
theorem bld13 {st : PS} {l : List (Nat × Operand)} {K : PV → Prop} : buildK Try.prog st 13 l K = bindO (evParts st l) fun ps => (ps.all fun e => match e.2 with | .tup _ => false | _ => true) = true ∧ bindO (fillP (fun i => [(0, 1), (1, 1)][i]?) [.val (.string ByteArray.empty), .val (.int .u64 0)] ps) fun cs => K (.agg cs) :=
  buildC Try.underlying13 z13 (by kernel_rfl) rfl rfl
-- 20: interface {}
theorem ag20 : aggT Try.prog 20 = some false := by kernel_rfl
theorem sz20 : sizeOf? Try.prog 20 = some 1 := by kernel_rfl
theorem z20 : zeroOf? Try.prog 20 = some (.nilIface) := by kernel_rfl
theorem rdo20 {cs : List PV} {off : Nat} : readCells Try.prog 20 cs off = cs[off]? := rd_one ag20
theorem alc20 {dr : Bool} {st : PS} {id tk : Nat} {K : PS → Prop} {d : Option Tmp} {ty : TypeId} {pos : String} {af : Array Edge} {g : Option (Nat × Bool)} : stepN dr Try.prog ⟨d, .alloc 20, ty, pos, af, g⟩ st id tk K = K (PS.put { st with heap := (id, .box 20 [.val (.nilIface)]) :: st.heap } d (.ptr id 0)) := s_allocC z20 rfl rfl
-- 21: int32
theorem ag21 : aggT Try.prog 21 = some false := by kernel_rfl
theorem sz21 : sizeOf? Try.prog 21 = some 1 := by kernel_rfl
theorem z21 : zeroOf? Try.prog 21 = some (.int .i32 0) := by kernel_rfl
theorem rdo21 {cs : List PV} {off : Nat} : readCells Try.prog 21 cs off = cs[off]? := rd_one ag21
theorem by21 : bytesOf? Try.prog 21 = some 4 := by kernel_rfl
theorem alc21 {dr : Bool} {st : PS} {id tk : Nat} {K : PS → Prop} {d : Option Tmp} {ty : TypeId} {pos : String} {af : Array Edge} {g : Option (Nat × Bool)} : stepN dr Try.prog ⟨d, .alloc 21, ty, pos, af, g⟩ st id tk K = K (PS.put { st with heap := (id, .box 21 [.val (.int .i32 0)]) :: st.heap } d (.ptr id 0)) := s_allocC z21 rfl rfl
-- 22: func() bool
theorem ag22 : aggT Try.prog 22 = some false := by kernel_rfl
theorem sz22 : sizeOf? Try.prog 22 = some 1 := by kernel_rfl
theorem z22 : zeroOf? Try.prog 22 = some (.nilFunc) := by kernel_rfl
theorem rdo22 {cs : List PV} {off : Nat} : readCells Try.prog 22 cs off = cs[off]? := rd_one ag22
-- 23: func(int, int) int
theorem ag23 : aggT Try.prog 23 = some false := by kernel_rfl
theorem sz23 : sizeOf? Try.prog 23 = some 1 := by kernel_rfl
theorem z23 : zeroOf? Try.prog 23 = some (.nilFunc) := by kernel_rfl
theorem rdo23 {cs : List PV} {off : Nat} : readCells Try.prog 23 cs off = cs[off]? := rd_one ag23
-- 25: func(int) (int, int, bool)
theorem ag25 : aggT Try.prog 25 = some false := by kernel_rfl
theorem sz25 : sizeOf? Try.prog 25 = some 1 := by kernel_rfl
theorem z25 : zeroOf? Try.prog 25 = some (.nilFunc) := by kernel_rfl
theorem rdo25 {cs : List PV} {off : Nat} : readCells Try.prog 25 cs off = cs[off]? := rd_one ag25
-- 26: func(int, int, int) bool
theorem ag26 : aggT Try.prog 26 = some false := by kernel_rfl
theorem sz26 : sizeOf? Try.prog 26 = some 1 := by kernel_rfl
theorem z26 : zeroOf? Try.prog 26 = some (.nilFunc) := by kernel_rfl
theorem rdo26 {cs : List PV} {off : Nat} : readCells Try.prog 26 cs off = cs[off]? := rd_one ag26
-- 27: func(int) string
theorem ag27 : aggT Try.prog 27 = some false := by kernel_rfl
theorem sz27 : sizeOf? Try.prog 27 = some 1 := by kernel_rfl
theorem z27 : zeroOf? Try.prog 27 = some (.nilFunc) := by kernel_rfl
theorem rdo27 {cs : List PV} {off : Nat} : readCells Try.prog 27 cs off = cs[off]? := rd_one ag27
-- 28: func(int) bool
theorem ag28 : aggT Try.prog 28 = some false := by kernel_rfl
theorem sz28 : sizeOf? Try.prog 28 = some 1 := by kernel_rfl
theorem z28 : zeroOf? Try.prog 28 = some (.nilFunc) := by kernel_rfl
theorem rdo28 {cs : List PV} {off : Nat} : readCells Try.prog 28 cs off = cs[off]? := rd_one ag28
-- 30: func(string) (int, int)
theorem ag30 : aggT Try.prog 30 = some false := by kernel_rfl
theorem sz30 : sizeOf? Try.prog 30 = some 1 := by kernel_rfl
theorem z30 : zeroOf? Try.prog 30 = some (.nilFunc) := by kernel_rfl
theorem rdo30 {cs : List PV} {off : Nat} : readCells Try.prog 30 cs off = cs[off]? := rd_one ag30
-- 31: func([]int) string
theorem ag31 : aggT Try.prog 31 = some false := by kernel_rfl
theorem sz31 : sizeOf? Try.prog 31 = some 1 := by kernel_rfl
theorem z31 : zeroOf? Try.prog 31 = some (.nilFunc) := by kernel_rfl
theorem rdo31 {cs : List PV} {off : Nat} : readCells Try.prog 31 cs off = cs[off]? := rd_one ag31
-- 32: []int
theorem ag32 : aggT Try.prog 32 = some false := by kernel_rfl
theorem sz32 : sizeOf? Try.prog 32 = some 1 := by kernel_rfl
theorem z32 : zeroOf? Try.prog 32 = some (.slice none 0 0) := by kernel_rfl
theorem rdo32 {cs : List PV} {off : Nat} : readCells Try.prog 32 cs off = cs[off]? := rd_one ag32
theorem by32 : bytesOf? Try.prog 32 = some 24 := by kernel_rfl
theorem alc32 {dr : Bool} {st : PS} {id tk : Nat} {K : PS → Prop} {d : Option Tmp} {ty : TypeId} {pos : String} {af : Array Edge} {g : Option (Nat × Bool)} : stepN dr Try.prog ⟨d, .alloc 32, ty, pos, af, g⟩ st id tk K = K (PS.put { st with heap := (id, .box 32 [.val (.slice none 0 0)]) :: st.heap } d (.ptr id 0)) := s_allocC z32 rfl rfl
theorem lns32 {st : PS} {x : Operand} {K : PV → Prop} : lenK Try.prog st 32 x K = bindO (st.ev x) (lenP K) := len_slice Try.underlying32
theorem ixs32 {st : PS} {x y : Operand} {K : PV → Prop} : indexAddrK Try.prog st 32 x y K = bindO (st.ev x) fun p => bindO (st.ev y) fun q => intK q fun i => ixP 1 i K p := ix_slice Try.underlying32 sz3
theorem sls32 {st : PS} {x : Operand} {lo hi : Option Operand} {K : PV → Prop} : sliceK Try.prog st 32 x lo hi K = bindO (st.ev x) (slcP 1 st lo hi K) := slc_slice Try.underlying32 sz3
theorem app32 {st : PS} {tk : Nat} {x y : Operand} {K : Delta → Prop} : appendK Try.prog st tk ⟨.builtin .append, #[x, y], #[32, 32]⟩ K = bindO (st.ev x) fun d => bindO (st.ev y) fun s => bindO (srcXs st 1 s) fun ys0 => bindO (fzLL ys0) fun ys => (∀ y ∈ ys, y.length = 1) ∧ appT 3 1 8 st tk K d ys :=
  append_t Try.underlying32 sz3 by3 z3 rfl (by decide)
theorem bs32 {dr : Bool} {st : PS} {id tk n : Nat} {K : PS → Prop} {d : Option Tmp} {ty : TypeId} {pos : String} {af : Array Edge} {g : Option (Nat × Bool)} {l : List (Nat × Operand)} :
    stepN dr Try.prog ⟨d, .buildSlice 32 n l.toArray, ty, pos, af, g⟩ st id tk K = bindO (evParts st l) fun ps => bindO (valsOf ps 0) fun xs => (∀ x ∈ xs, x.length = 1) ∧ xs.length = n ∧ n * 1 ≤ 16777216 ∧ K (PS.put { st with toks := upd st.toks tk ⟨3, 1, n⟩ } d (.row tk xs)) :=
  s_buildSlice Try.underlying32 sz3 z3 (by decide) rfl
theorem mks32 {dr : Bool} {st : PS} {id tk : Nat} {K : PS → Prop} {d : Option Tmp} {ty : TypeId} {pos : String} {af : Array Edge} {g : Option (Nat × Bool)} {l c : Operand} : stepN dr Try.prog ⟨d, .makeSlice 32 l c, ty, pos, af, g⟩ st id tk K = bindO (st.ev l) fun p => bindO (st.ev c) fun q => intK p fun n => intK q fun m => n = m ∧ 0 ≤ n ∧ n ≤ 9223372036854775807 ∧ 8 * n ≤ 281474976710656 ∧
    K (PS.put { st with heap := (id, .box 3 ((List.range (n.toNat * 1)).map fun i => [.val (.int .i64 0)].getD (i % 1) (.val .nilIface))) :: st.heap } d (.ms id 0 n.toNat n.toNat)) :=
  s_makeSlice Try.underlying32 sz3 by3 z3 rfl rfl (by decide) rfl
-- 33: func(int, string) bool
theorem ag33 : aggT Try.prog 33 = some false := by kernel_rfl
theorem sz33 : sizeOf? Try.prog 33 = some 1 := by kernel_rfl
theorem z33 : zeroOf? Try.prog 33 = some (.nilFunc) := by kernel_rfl
theorem rdo33 {cs : List PV} {off : Nat} : readCells Try.prog 33 cs off = cs[off]? := rd_one ag33
-- 34: func(string, int) (int, int)
theorem ag34 : aggT Try.prog 34 = some false := by kernel_rfl
theorem sz34 : sizeOf? Try.prog 34 = some 1 := by kernel_rfl
theorem z34 : zeroOf? Try.prog 34 = some (.nilFunc) := by kernel_rfl
theorem rdo34 {cs : List PV} {off : Nat} : readCells Try.prog 34 cs off = cs[off]? := rd_one ag34
-- 35: func(string) bool
theorem ag35 : aggT Try.prog 35 = some false := by kernel_rfl
theorem sz35 : sizeOf? Try.prog 35 = some 1 := by kernel_rfl
theorem z35 : zeroOf? Try.prog 35 = some (.nilFunc) := by kernel_rfl
theorem rdo35 {cs : List PV} {off : Nat} : readCells Try.prog 35 cs off = cs[off]? := rd_one ag35
-- 37: func(string) ([]int, bool)
theorem ag37 : aggT Try.prog 37 = some false := by kernel_rfl
theorem sz37 : sizeOf? Try.prog 37 = some 1 := by kernel_rfl
theorem z37 : zeroOf? Try.prog 37 = some (.nilFunc) := by kernel_rfl
theorem rdo37 {cs : List PV} {off : Nat} : readCells Try.prog 37 cs off = cs[off]? := rd_one ag37
-- 38: func(string, string) bool
theorem ag38 : aggT Try.prog 38 = some false := by kernel_rfl
theorem sz38 : sizeOf? Try.prog 38 = some 1 := by kernel_rfl
theorem z38 : zeroOf? Try.prog 38 = some (.nilFunc) := by kernel_rfl
theorem rdo38 {cs : List PV} {off : Nat} : readCells Try.prog 38 cs off = cs[off]? := rd_one ag38
-- 40: func([]int) (string, bool)
theorem ag40 : aggT Try.prog 40 = some false := by kernel_rfl
theorem sz40 : sizeOf? Try.prog 40 = some 1 := by kernel_rfl
theorem z40 : zeroOf? Try.prog 40 = some (.nilFunc) := by kernel_rfl
theorem rdo40 {cs : List PV} {off : Nat} : readCells Try.prog 40 cs off = cs[off]? := rd_one ag40
-- 41: func([]int) bool
theorem ag41 : aggT Try.prog 41 = some false := by kernel_rfl
theorem sz41 : sizeOf? Try.prog 41 = some 1 := by kernel_rfl
theorem z41 : zeroOf? Try.prog 41 = some (.nilFunc) := by kernel_rfl
theorem rdo41 {cs : List PV} {off : Nat} : readCells Try.prog 41 cs off = cs[off]? := rd_one ag41
-- 43: func(string) ([]int, int)
theorem ag43 : aggT Try.prog 43 = some false := by kernel_rfl
theorem sz43 : sizeOf? Try.prog 43 = some 1 := by kernel_rfl
theorem z43 : zeroOf? Try.prog 43 = some (.nilFunc) := by kernel_rfl
theorem rdo43 {cs : List PV} {off : Nat} : readCells Try.prog 43 cs off = cs[off]? := rd_one ag43
-- 45: func(string) (int, bool)
theorem ag45 : aggT Try.prog 45 = some false := by kernel_rfl
theorem sz45 : sizeOf? Try.prog 45 = some 1 := by kernel_rfl
theorem z45 : zeroOf? Try.prog 45 = some (.nilFunc) := by kernel_rfl
theorem rdo45 {cs : List PV} {off : Nat} : readCells Try.prog 45 cs off = cs[off]? := rd_one ag45
-- 46: func(int32) int
theorem ag46 : aggT Try.prog 46 = some false := by kernel_rfl
theorem sz46 : sizeOf? Try.prog 46 = some 1 := by kernel_rfl
theorem z46 : zeroOf? Try.prog 46 = some (.nilFunc) := by kernel_rfl
theorem rdo46 {cs : List PV} {off : Nat} : readCells Try.prog 46 cs off = cs[off]? := rd_one ag46
-- 47: []uint8
theorem ag47 : aggT Try.prog 47 = some false := by kernel_rfl
theorem sz47 : sizeOf? Try.prog 47 = some 1 := by kernel_rfl
theorem z47 : zeroOf? Try.prog 47 = some (.slice none 0 0) := by kernel_rfl
theorem rdo47 {cs : List PV} {off : Nat} : readCells Try.prog 47 cs off = cs[off]? := rd_one ag47
theorem by47 : bytesOf? Try.prog 47 = some 24 := by kernel_rfl
theorem alc47 {dr : Bool} {st : PS} {id tk : Nat} {K : PS → Prop} {d : Option Tmp} {ty : TypeId} {pos : String} {af : Array Edge} {g : Option (Nat × Bool)} : stepN dr Try.prog ⟨d, .alloc 47, ty, pos, af, g⟩ st id tk K = K (PS.put { st with heap := (id, .box 47 [.val (.slice none 0 0)]) :: st.heap } d (.ptr id 0)) := s_allocC z47 rfl rfl
theorem lns47 {st : PS} {x : Operand} {K : PV → Prop} : lenK Try.prog st 47 x K = bindO (st.ev x) (lenP K) := len_slice Try.underlying47
theorem ixs47 {st : PS} {x y : Operand} {K : PV → Prop} : indexAddrK Try.prog st 47 x y K = bindO (st.ev x) fun p => bindO (st.ev y) fun q => intK q fun i => ixP 1 i K p := ix_slice Try.underlying47 sz5
theorem sls47 {st : PS} {x : Operand} {lo hi : Option Operand} {K : PV → Prop} : sliceK Try.prog st 47 x lo hi K = bindO (st.ev x) (slcP 1 st lo hi K) := slc_slice Try.underlying47 sz5
theorem app47 {st : PS} {tk : Nat} {x y : Operand} {K : Delta → Prop} : appendK Try.prog st tk ⟨.builtin .append, #[x, y], #[47, 47]⟩ K = bindO (st.ev x) fun d => bindO (st.ev y) fun s => bindO (srcXs st 1 s) fun ys0 => bindO (fzLL ys0) fun ys => (∀ y ∈ ys, y.length = 1) ∧ appT 5 1 1 st tk K d ys :=
  append_t Try.underlying47 sz5 by5 z5 rfl (by decide)
theorem bs47 {dr : Bool} {st : PS} {id tk n : Nat} {K : PS → Prop} {d : Option Tmp} {ty : TypeId} {pos : String} {af : Array Edge} {g : Option (Nat × Bool)} {l : List (Nat × Operand)} :
    stepN dr Try.prog ⟨d, .buildSlice 47 n l.toArray, ty, pos, af, g⟩ st id tk K = bindO (evParts st l) fun ps => bindO (valsOf ps 0) fun xs => (∀ x ∈ xs, x.length = 1) ∧ xs.length = n ∧ n * 1 ≤ 16777216 ∧ K (PS.put { st with toks := upd st.toks tk ⟨5, 1, n⟩ } d (.row tk xs)) :=
  s_buildSlice Try.underlying47 sz5 z5 (by decide) rfl
theorem isb47 : isBytes Try.prog 47 = True := eq_true ⟨5, Try.underlying47, Try.underlying5⟩
theorem aps47 {st : PS} {tk : Nat} {x y : Operand} {K : Delta → Prop} : appendK Try.prog st tk ⟨.builtin .append, #[x, y], #[47, 9]⟩ K = bindO (st.ev x) fun d => bindO (st.ev y) fun s => appS 5 1 st tk K d s :=
  append_s Try.underlying47 Try.underlying9 sz5 by5 z5
theorem cvr47 {k : Nat} {xs : List Int} {K : PV → Prop} : convK Try.prog 47 9 (rowC k xs) K = K (.val (.string (strOfNums xs))) := conv_rowC (by rw [Try.underlying47]; rfl) ⟨5, Try.underlying47, Try.underlying5⟩ Try.underlying9
theorem mks47 {dr : Bool} {st : PS} {id tk : Nat} {K : PS → Prop} {d : Option Tmp} {ty : TypeId} {pos : String} {af : Array Edge} {g : Option (Nat × Bool)} {l c : Operand} : stepN dr Try.prog ⟨d, .makeSlice 47 l c, ty, pos, af, g⟩ st id tk K = bindO (st.ev l) fun p => bindO (st.ev c) fun q => intK p fun n => intK q fun m => n = m ∧ 0 ≤ n ∧ n ≤ 9223372036854775807 ∧ 1 * n ≤ 281474976710656 ∧
    K (PS.put { st with heap := (id, .box 5 ((List.range (n.toNat * 1)).map fun i => [.val (.int .u8 0)].getD (i % 1) (.val .nilIface))) :: st.heap } d (.ms id 0 n.toNat n.toNat)) :=
  s_makeSlice Try.underlying47 sz5 by5 z5 rfl rfl (by decide) rfl
-- 48: func(int) []int
theorem ag48 : aggT Try.prog 48 = some false := by kernel_rfl
theorem sz48 : sizeOf? Try.prog 48 = some 1 := by kernel_rfl
theorem z48 : zeroOf? Try.prog 48 = some (.nilFunc) := by kernel_rfl
theorem rdo48 {cs : List PV} {off : Nat} : readCells Try.prog 48 cs off = cs[off]? := rd_one ag48
-- 49: [5]int
theorem ag49 : aggT Try.prog 49 = some true := by kernel_rfl
theorem sz49 : sizeOf? Try.prog 49 = some 5 := by kernel_rfl
theorem z49 : zeroOf? Try.prog 49 = some (.agg #[.int .i64 0, .int .i64 0, .int .i64 0, .int .i64 0, .int .i64 0]) := by kernel_rfl
theorem rda49 {cs : List PV} {off : Nat} : readCells Try.prog 49 cs off = if off + 5 ≤ cs.length then some (.agg ((cs.drop off).take 5)) else none := rd_agg ag49 sz49
theorem by49 : bytesOf? Try.prog 49 = some 40 := by kernel_rfl
theorem alc49 {dr : Bool} {st : PS} {id tk : Nat} {K : PS → Prop} {d : Option Tmp} {ty : TypeId} {pos : String} {af : Array Edge} {g : Option (Nat × Bool)} : stepN dr Try.prog ⟨d, .alloc 49, ty, pos, af, g⟩ st id tk K = K (PS.put { st with heap := (id, .box 49 [.val (.int .i64 0), .val (.int .i64 0), .val (.int .i64 0), .val (.int .i64 0), .val (.int .i64 0)]) :: st.heap } d (.ptr id 0)) := s_allocC z49 rfl rfl
theorem lns49 {st : PS} {x : Operand} {K : PV → Prop} : lenK Try.prog st 49 x K = K (.val (.int .i64 (5 : Nat))) := len_array Try.underlying49
theorem ixs49 {st : PS} {x y : Operand} {K : PV → Prop} : indexAddrK Try.prog st 49 x y K = bindO (st.ev x) fun p => bindO (st.ev y) fun q => intK q fun i => ixA 1 5 i K p := ix_array Try.underlying49 sz3
theorem bld49 {st : PS} {l : List (Nat × Operand)} {K : PV → Prop} : buildK Try.prog st 49 l K = bindO (evParts st l) fun ps => (ps.all fun e => match e.2 with | .tup _ => false | _ => true) = true ∧ bindO (fillP (fun i => some (i * 1, 1)) [.val (.int .i64 0), .val (.int .i64 0), .val (.int .i64 0), .val (.int .i64 0), .val (.int .i64 0)] ps) fun cs => K (.agg cs) :=
  buildA Try.underlying49 z49 sz3 rfl rfl
-- 50: func(string, func(int)) int
theorem ag50 : aggT Try.prog 50 = some false := by kernel_rfl
theorem sz50 : sizeOf? Try.prog 50 = some 1 := by kernel_rfl
theorem z50 : zeroOf? Try.prog 50 = some (.nilFunc) := by kernel_rfl
theorem rdo50 {cs : List PV} {off : Nat} : readCells Try.prog 50 cs off = cs[off]? := rd_one ag50
-- 51: func(int)
theorem ag51 : aggT Try.prog 51 = some false := by kernel_rfl
theorem sz51 : sizeOf? Try.prog 51 = some 1 := by kernel_rfl
theorem z51 : zeroOf? Try.prog 51 = some (.nilFunc) := by kernel_rfl
theorem rdo51 {cs : List PV} {off : Nat} : readCells Try.prog 51 cs off = cs[off]? := rd_one ag51
-- 52: *strings.Builder
theorem ag52 : aggT Try.prog 52 = some false := by kernel_rfl
theorem sz52 : sizeOf? Try.prog 52 = some 1 := by kernel_rfl
theorem z52 : zeroOf? Try.prog 52 = some (.pointer none) := by kernel_rfl
theorem rdo52 {cs : List PV} {off : Nat} : readCells Try.prog 52 cs off = cs[off]? := rd_one ag52
theorem by52 : bytesOf? Try.prog 52 = some 8 := by kernel_rfl
theorem alc52 {dr : Bool} {st : PS} {id tk : Nat} {K : PS → Prop} {d : Option Tmp} {ty : TypeId} {pos : String} {af : Array Edge} {g : Option (Nat × Bool)} : stepN dr Try.prog ⟨d, .alloc 52, ty, pos, af, g⟩ st id tk K = K (PS.put { st with heap := (id, .box 52 [.val (.pointer none)]) :: st.heap } d (.ptr id 0)) := s_allocC z52 rfl rfl
-- 53: struct { addr *strings.Builder; buf []uint8 }
theorem ag53 : aggT Try.prog 53 = some true := by kernel_rfl
theorem sz53 : sizeOf? Try.prog 53 = some 2 := by kernel_rfl
theorem z53 : zeroOf? Try.prog 53 = some (.agg #[.pointer none, .slice none 0 0]) := by kernel_rfl
theorem rda53 {cs : List PV} {off : Nat} : readCells Try.prog 53 cs off = if off + 2 ≤ cs.length then some (.agg ((cs.drop off).take 2)) else none := rd_agg ag53 sz53
theorem by53 : bytesOf? Try.prog 53 = some 32 := by kernel_rfl
theorem alc53 {dr : Bool} {st : PS} {id tk : Nat} {K : PS → Prop} {d : Option Tmp} {ty : TypeId} {pos : String} {af : Array Edge} {g : Option (Nat × Bool)} : stepN dr Try.prog ⟨d, .alloc 53, ty, pos, af, g⟩ st id tk K = K (PS.put { st with heap := (id, .box 53 [.val (.pointer none), .val (.slice none 0 0)]) :: st.heap } d (.ptr id 0)) := s_allocC z53 rfl rfl
theorem fa53_0 {st : PS} {x : Operand} {K : PV → Prop} : fieldAddrK Try.prog st 53 x 0 K = bindO (st.ev x) (fldP 0 K) :=
  fld_ (P := Try.prog) (st := st) (x := x) (K := K) (f := 0) Try.underlying53 rfl sz52 (by decide)
theorem fi53_0 {st : PS} {x : Operand} {K : PV → Prop} : fieldK Try.prog st 53 x 0 K = bindO (st.ev x) (fieldP Try.prog 52 0 K) :=
  field_ (P := Try.prog) (st := st) (x := x) (K := K) (f := 0) Try.underlying53 rfl
theorem fa53_1 {st : PS} {x : Operand} {K : PV → Prop} : fieldAddrK Try.prog st 53 x 1 K = bindO (st.ev x) (fldP 1 K) :=
  fld_ (P := Try.prog) (st := st) (x := x) (K := K) (f := 1) Try.underlying53 rfl sz47 (by decide)
theorem fi53_1 {st : PS} {x : Operand} {K : PV → Prop} : fieldK Try.prog st 53 x 1 K = bindO (st.ev x) (fieldP Try.prog 47 1 K) :=
  field_ (P := Try.prog) (st := st) (x := x) (K := K) (f := 1) Try.underlying53 rfl
theorem bld53 {st : PS} {l : List (Nat × Operand)} {K : PV → Prop} : buildK Try.prog st 53 l K = bindO (evParts st l) fun ps => (ps.all fun e => match e.2 with | .tup _ => false | _ => true) = true ∧ bindO (fillP (fun i => [(0, 1), (1, 1)][i]?) [.val (.pointer none), .val (.slice none 0 0)] ps) fun cs => K (.agg cs) :=
  buildC Try.underlying53 z53 (by kernel_rfl) rfl rfl
-- 54: strings.Builder
theorem ag54 : aggT Try.prog 54 = some true := by kernel_rfl
theorem sz54 : sizeOf? Try.prog 54 = some 2 := by kernel_rfl
theorem z54 : zeroOf? Try.prog 54 = some (.agg #[.pointer none, .slice none 0 0]) := by kernel_rfl
theorem rda54 {cs : List PV} {off : Nat} : readCells Try.prog 54 cs off = if off + 2 ≤ cs.length then some (.agg ((cs.drop off).take 2)) else none := rd_agg ag54 sz54
theorem by54 : bytesOf? Try.prog 54 = some 32 := by kernel_rfl
theorem alc54 {dr : Bool} {st : PS} {id tk : Nat} {K : PS → Prop} {d : Option Tmp} {ty : TypeId} {pos : String} {af : Array Edge} {g : Option (Nat × Bool)} : stepN dr Try.prog ⟨d, .alloc 54, ty, pos, af, g⟩ st id tk K = K (PS.put { st with heap := (id, .box 54 [.val (.pointer none), .val (.slice none 0 0)]) :: st.heap } d (.ptr id 0)) := s_allocC z54 rfl rfl
theorem fa54_0 {st : PS} {x : Operand} {K : PV → Prop} : fieldAddrK Try.prog st 54 x 0 K = bindO (st.ev x) (fldP 0 K) :=
  fld_ (P := Try.prog) (st := st) (x := x) (K := K) (f := 0) Try.underlying54 rfl sz52 (by decide)
theorem fi54_0 {st : PS} {x : Operand} {K : PV → Prop} : fieldK Try.prog st 54 x 0 K = bindO (st.ev x) (fieldP Try.prog 52 0 K) :=
  field_ (P := Try.prog) (st := st) (x := x) (K := K) (f := 0) Try.underlying54 rfl
theorem fa54_1 {st : PS} {x : Operand} {K : PV → Prop} : fieldAddrK Try.prog st 54 x 1 K = bindO (st.ev x) (fldP 1 K) :=
  fld_ (P := Try.prog) (st := st) (x := x) (K := K) (f := 1) Try.underlying54 rfl sz47 (by decide)
theorem fi54_1 {st : PS} {x : Operand} {K : PV → Prop} : fieldK Try.prog st 54 x 1 K = bindO (st.ev x) (fieldP Try.prog 47 1 K) :=
  field_ (P := Try.prog) (st := st) (x := x) (K := K) (f := 1) Try.underlying54 rfl
theorem bld54 {st : PS} {l : List (Nat × Operand)} {K : PV → Prop} : buildK Try.prog st 54 l K = bindO (evParts st l) fun ps => (ps.all fun e => match e.2 with | .tup _ => false | _ => true) = true ∧ bindO (fillP (fun i => [(0, 1), (1, 1)][i]?) [.val (.pointer none), .val (.slice none 0 0)] ps) fun cs => K (.agg cs) :=
  buildC Try.underlying54 z54 (by kernel_rfl) rfl rfl
-- 55: Error
theorem ag55 : aggT Try.prog 55 = some false := by kernel_rfl
theorem sz55 : sizeOf? Try.prog 55 = some 1 := by kernel_rfl
theorem z55 : zeroOf? Try.prog 55 = some (.nilIface) := by kernel_rfl
theorem rdo55 {cs : List PV} {off : Nat} : readCells Try.prog 55 cs off = cs[off]? := rd_one ag55
theorem alc55 {dr : Bool} {st : PS} {id tk : Nat} {K : PS → Prop} {d : Option Tmp} {ty : TypeId} {pos : String} {af : Array Edge} {g : Option (Nat × Bool)} : stepN dr Try.prog ⟨d, .alloc 55, ty, pos, af, g⟩ st id tk K = K (PS.put { st with heap := (id, .box 55 [.val (.nilIface)]) :: st.heap } d (.ptr id 0)) := s_allocC z55 rfl rfl
-- 56: error
theorem ag56 : aggT Try.prog 56 = some false := by kernel_rfl
theorem sz56 : sizeOf? Try.prog 56 = some 1 := by kernel_rfl
theorem z56 : zeroOf? Try.prog 56 = some (.nilIface) := by kernel_rfl
theorem rdo56 {cs : List PV} {off : Nat} : readCells Try.prog 56 cs off = cs[off]? := rd_one ag56
theorem by56 : bytesOf? Try.prog 56 = some 16 := by kernel_rfl
theorem alc56 {dr : Bool} {st : PS} {id tk : Nat} {K : PS → Prop} {d : Option Tmp} {ty : TypeId} {pos : String} {af : Array Edge} {g : Option (Nat × Bool)} : stepN dr Try.prog ⟨d, .alloc 56, ty, pos, af, g⟩ st id tk K = K (PS.put { st with heap := (id, .box 56 [.val (.nilIface)]) :: st.heap } d (.ptr id 0)) := s_allocC z56 rfl rfl
-- 58: func(string) (int, error)
theorem ag58 : aggT Try.prog 58 = some false := by kernel_rfl
theorem sz58 : sizeOf? Try.prog 58 = some 1 := by kernel_rfl
theorem z58 : zeroOf? Try.prog 58 = some (.nilFunc) := by kernel_rfl
theorem rdo58 {cs : List PV} {off : Nat} : readCells Try.prog 58 cs off = cs[off]? := rd_one ag58
-- 59: func() string
theorem ag59 : aggT Try.prog 59 = some false := by kernel_rfl
theorem sz59 : sizeOf? Try.prog 59 = some 1 := by kernel_rfl
theorem z59 : zeroOf? Try.prog 59 = some (.nilFunc) := by kernel_rfl
theorem rdo59 {cs : List PV} {off : Nat} : readCells Try.prog 59 cs off = cs[off]? := rd_one ag59
-- 60: *uint8
theorem ag60 : aggT Try.prog 60 = some false := by kernel_rfl
theorem sz60 : sizeOf? Try.prog 60 = some 1 := by kernel_rfl
theorem z60 : zeroOf? Try.prog 60 = some (.pointer none) := by kernel_rfl
theorem rdo60 {cs : List PV} {off : Nat} : readCells Try.prog 60 cs off = cs[off]? := rd_one ag60
theorem by60 : bytesOf? Try.prog 60 = some 8 := by kernel_rfl
theorem alc60 {dr : Bool} {st : PS} {id tk : Nat} {K : PS → Prop} {d : Option Tmp} {ty : TypeId} {pos : String} {af : Array Edge} {g : Option (Nat × Bool)} : stepN dr Try.prog ⟨d, .alloc 60, ty, pos, af, g⟩ st id tk K = K (PS.put { st with heap := (id, .box 60 [.val (.pointer none)]) :: st.heap } d (.ptr id 0)) := s_allocC z60 rfl rfl
-- 62: func(unsafe.Pointer) unsafe.Pointer
theorem ag62 : aggT Try.prog 62 = some false := by kernel_rfl
theorem sz62 : sizeOf? Try.prog 62 = some 1 := by kernel_rfl
theorem z62 : zeroOf? Try.prog 62 = some (.nilFunc) := by kernel_rfl
theorem rdo62 {cs : List PV} {off : Nat} : readCells Try.prog 62 cs off = cs[off]? := rd_one ag62
-- 65: [0]*runtime.PanicNilError
theorem ag65 : aggT Try.prog 65 = some true := by kernel_rfl
theorem sz65 : sizeOf? Try.prog 65 = some 0 := by kernel_rfl
theorem z65 : zeroOf? Try.prog 65 = some (.agg #[]) := by kernel_rfl
theorem by65 : bytesOf? Try.prog 65 = some 0 := by kernel_rfl
-- 66: struct { _ [0]*runtime.PanicNilError }
theorem ag66 : aggT Try.prog 66 = some true := by kernel_rfl
theorem sz66 : sizeOf? Try.prog 66 = some 0 := by kernel_rfl
theorem z66 : zeroOf? Try.prog 66 = some (.agg #[]) := by kernel_rfl
theorem by66 : bytesOf? Try.prog 66 = some 0 := by kernel_rfl
-- 68: func() int
theorem ag68 : aggT Try.prog 68 = some false := by kernel_rfl
theorem sz68 : sizeOf? Try.prog 68 = some 1 := by kernel_rfl
theorem z68 : zeroOf? Try.prog 68 = some (.nilFunc) := by kernel_rfl
theorem rdo68 {cs : List PV} {off : Nat} : readCells Try.prog 68 cs off = cs[off]? := rd_one ag68
-- 69: uint32
theorem ag69 : aggT Try.prog 69 = some false := by kernel_rfl
theorem sz69 : sizeOf? Try.prog 69 = some 1 := by kernel_rfl
theorem z69 : zeroOf? Try.prog 69 = some (.int .u32 0) := by kernel_rfl
theorem rdo69 {cs : List PV} {off : Nat} : readCells Try.prog 69 cs off = cs[off]? := rd_one ag69
theorem by69 : bytesOf? Try.prog 69 = some 4 := by kernel_rfl
theorem alc69 {dr : Bool} {st : PS} {id tk : Nat} {K : PS → Prop} {d : Option Tmp} {ty : TypeId} {pos : String} {af : Array Edge} {g : Option (Nat × Bool)} : stepN dr Try.prog ⟨d, .alloc 69, ty, pos, af, g⟩ st id tk K = K (PS.put { st with heap := (id, .box 69 [.val (.int .u32 0)]) :: st.heap } d (.ptr id 0)) := s_allocC z69 rfl rfl
-- 72: func(unsafe.Pointer, unsafe.Pointer) bool
theorem ag72 : aggT Try.prog 72 = some false := by kernel_rfl
theorem sz72 : sizeOf? Try.prog 72 = some 1 := by kernel_rfl
theorem z72 : zeroOf? Try.prog 72 = some (.nilFunc) := by kernel_rfl
theorem rdo72 {cs : List PV} {off : Nat} : readCells Try.prog 72 cs off = cs[off]? := rd_one ag72
attribute [go_sem ↓] alc2 alc3 alc4 alc5 alc9 rng9 lns9 ixs9 sls9 alc12 alc13 fa13_0 fi13_0 fa13_1 fi13_1 bld13 alc20 alc21 alc32 lns32 ixs32 sls32 app32 bs32 mks32 alc47 lns47 ixs47 sls47 aps47 cvr47 app47 bs47 mks47 alc49 lns49 ixs49 bld49 alc52 alc53 fa53_0 fi53_0 fa53_1 fi53_1 bld53 alc54 fa54_0 fi54_0 fa54_1 fi54_1 bld54 alc55 alc56 alc60 alc69
attribute [go_sem] rdo1 sz1 rdo2 sz2 Try.underlying2 rdo3 sz3 Try.underlying3 rdo4 sz4 Try.underlying4 rdo5 sz5 Try.underlying5 rdo9 sz9 Try.underlying9 rdo12 sz12 Try.underlying12 rda13 sz13 rdo20 sz20 rdo21 sz21 Try.underlying21 rdo22 sz22 rdo23 sz23 rdo25 sz25 rdo26 sz26 rdo27 sz27 rdo28 sz28 rdo30 sz30 rdo31 sz31 rdo32 sz32 rdo33 sz33 rdo34 sz34 rdo35 sz35 rdo37 sz37 rdo38 sz38 rdo40 sz40 rdo41 sz41 rdo43 sz43 rdo45 sz45 rdo46 sz46 rdo47 sz47 isb47 Try.underlying47 rdo48 sz48 rda49 sz49 rdo50 sz50 rdo51 sz51 rdo52 sz52 rda53 sz53 rda54 sz54 rdo55 sz55 rdo56 sz56 rdo58 sz58 rdo59 sz59 rdo60 sz60 rdo62 sz62 sz65 sz66 rdo68 sz68 rdo69 sz69 Try.underlying69 rdo72 sz72
end Go.Proofs.Ytfhdokpcnkpcpaa
