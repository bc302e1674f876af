/-
  The types of this seat's program: sizes, zero values, the rules by which their operations are rewritten.
-/
import Derived.Test.YtppefmkknmdfkaaProg
import Derived.Test.YtppefmkknmdfkaaPwX
namespace Go.Proofs.Ytppefmkknmdfkaa
open Go Go.Pw
set_option linter.unusedVariables false
-- 1: func()
theorem ag1 : aggT Try.prog 1 = some false := by kernel_rfl
theorem sz1 : sizeOf? Try.prog 1 = some 1 := by kernel_rfl
theorem z1 : zeroOf? Try.prog 1 = some (.nilFunc) := by kernel_rfl
-- 2: int64
theorem ag2 : aggT Try.prog 2 = some false := by kernel_rfl
theorem sz2 : sizeOf? Try.prog 2 = some 1 := by kernel_rfl
theorem z2 : zeroOf? Try.prog 2 = some (.int .i64 0) := by kernel_rfl
theorem by2 : bytesOf? Try.prog 2 = some 8 := by kernel_rfl
-- 3: int
theorem ag3 : aggT Try.prog 3 = some false := by kernel_rfl
theorem sz3 : sizeOf? Try.prog 3 = some 1 := by kernel_rfl
theorem z3 : zeroOf? Try.prog 3 = some (.int .i64 0) := by kernel_rfl
theorem by3 : bytesOf? Try.prog 3 = some 8 := by kernel_rfl
-- 4: bool
theorem ag4 : aggT Try.prog 4 = some false := by kernel_rfl
theorem sz4 : sizeOf? Try.prog 4 = some 1 := by kernel_rfl
theorem z4 : zeroOf? Try.prog 4 = some (.bool false) := by kernel_rfl
theorem by4 : bytesOf? Try.prog 4 = some 1 := by kernel_rfl
-- 5: uint8
theorem ag5 : aggT Try.prog 5 = some false := by kernel_rfl
theorem sz5 : sizeOf? Try.prog 5 = some 1 := by kernel_rfl
theorem z5 : zeroOf? Try.prog 5 = some (.int .u8 0) := by kernel_rfl
theorem by5 : bytesOf? Try.prog 5 = some 1 := by kernel_rfl
-- 9: string
theorem ag9 : aggT Try.prog 9 = some false := by kernel_rfl
theorem sz9 : sizeOf? Try.prog 9 = some 1 := by kernel_rfl
theorem z9 : zeroOf? Try.prog 9 = some (.string ByteArray.empty) := by kernel_rfl
theorem by9 : bytesOf? Try.prog 9 = some 16 := by kernel_rfl
-- 12: uintptr
theorem ag12 : aggT Try.prog 12 = some false := by kernel_rfl
theorem sz12 : sizeOf? Try.prog 12 = some 1 := by kernel_rfl
theorem z12 : zeroOf? Try.prog 12 = some (.int .u64 0) := by kernel_rfl
theorem by12 : bytesOf? Try.prog 12 = some 8 := by kernel_rfl
-- 13: struct { msg string; addr uintptr }
theorem ag13 : aggT Try.prog 13 = some true := by kernel_rfl
theorem sz13 : sizeOf? Try.prog 13 = some 2 := by kernel_rfl
theorem z13 : zeroOf? Try.prog 13 = some (.agg #[.string ByteArray.empty, .int .u64 0]) := by kernel_rfl
theorem by13 : bytesOf? Try.prog 13 = some 24 := by kernel_rfl
theorem fa13_0 {st : PS} {x : Operand} {K : PV → Prop} : fieldAddrK Try.prog st 13 x 0 K = bindO (st.ev x) (fldP 0 K) :=
  fld_ (P := Try.prog) (st := st) (x := x) (K := K) (f := 0) Try.underlying13 rfl sz9 (by decide)
theorem fi13_0 {st : PS} {x : Operand} {K : PV → Prop} : fieldK Try.prog st 13 x 0 K = bindO (st.ev x) (fieldP Try.prog 9 0 K) :=
  field_ (P := Try.prog) (st := st) (x := x) (K := K) (f := 0) Try.underlying13 rfl
theorem fa13_1 {st : PS} {x : Operand} {K : PV → Prop} : fieldAddrK Try.prog st 13 x 1 K = bindO (st.ev x) (fldP 1 K) :=
  fld_ (P := Try.prog) (st := st) (x := x) (K := K) (f := 1) Try.underlying13 rfl sz12 (by decide)
theorem fi13_1 {st : PS} {x : Operand} {K : PV → Prop} : fieldK Try.prog st 13 x 1 K = bindO (st.ev x) (fieldP Try.prog 12 1 K) :=
  field_ (P := Try.prog) (st := st) (x := x) (K := K) (f := 1) Try.underlying13 rfl
theorem bld13 {st : PS} {l : List (Nat × Operand)} {K : PV → Prop} : buildK Try.prog st 13 l K = bindO (evParts st l) fun ps => (ps.all fun e => match e.2 with | .tup _ => false | _ => true) = true ∧ bindO (fillP (fun i => [(0, 1), (1, 1)][i]?) [.val (.string ByteArray.empty), .val (.int .u64 0)] ps) fun cs => K (.agg cs) :=
  buildC Try.underlying13 z13 (by kernel_rfl) rfl rfl
-- 20: interface {}
theorem ag20 : aggT Try.prog 20 = some false := by kernel_rfl
theorem sz20 : sizeOf? Try.prog 20 = some 1 := by kernel_rfl
theorem z20 : zeroOf? Try.prog 20 = some (.nilIface) := by kernel_rfl
-- 21: int32
theorem ag21 : aggT Try.prog 21 = some false := by kernel_rfl
theorem sz21 : sizeOf? Try.prog 21 = some 1 := by kernel_rfl
theorem z21 : zeroOf? Try.prog 21 = some (.int .i32 0) := by kernel_rfl
theorem by21 : bytesOf? Try.prog 21 = some 4 := by kernel_rfl
-- 22: func() bool
theorem ag22 : aggT Try.prog 22 = some false := by kernel_rfl
theorem sz22 : sizeOf? Try.prog 22 = some 1 := by kernel_rfl
theorem z22 : zeroOf? Try.prog 22 = some (.nilFunc) := by kernel_rfl
-- 23: api.Errno
theorem ag23 : aggT Try.prog 23 = some false := by kernel_rfl
theorem sz23 : sizeOf? Try.prog 23 = some 1 := by kernel_rfl
theorem z23 : zeroOf? Try.prog 23 = some (.int .i64 0) := by kernel_rfl
theorem by23 : bytesOf? Try.prog 23 = some 8 := by kernel_rfl
-- 25: func(int64, int64) (int64, api.Errno)
theorem ag25 : aggT Try.prog 25 = some false := by kernel_rfl
theorem sz25 : sizeOf? Try.prog 25 = some 1 := by kernel_rfl
theorem z25 : zeroOf? Try.prog 25 = some (.nilFunc) := by kernel_rfl
-- 26: []int
theorem ag26 : aggT Try.prog 26 = some false := by kernel_rfl
theorem sz26 : sizeOf? Try.prog 26 = some 1 := by kernel_rfl
theorem z26 : zeroOf? Try.prog 26 = some (.slice none 0 0) := by kernel_rfl
theorem by26 : bytesOf? Try.prog 26 = some 24 := by kernel_rfl
theorem app26 {st : PS} {tk : Nat} {x y : Operand} {K : Delta → Prop} : appendK Try.prog st tk ⟨.builtin .append, #[x, y], #[26, 26]⟩ K = bindO (st.ev x) fun d => bindO (st.ev y) fun s => bindO (srcXs st 1 s) fun ys0 => bindO (fzLL ys0) fun ys => (∀ y ∈ ys, y.length = 1) ∧ appT 3 1 8 st tk K d ys :=
  append_t Try.underlying26 sz3 by3 z3 rfl (by decide)
theorem bs26 {st : PS} {id tk n : Nat} {K : PS → Prop} {d : Option Tmp} {ty : TypeId} {pos : String} {af : Array Edge} {g : Option (Nat × Bool)} {l : List (Nat × Operand)} :
    stepN Try.prog ⟨d, .buildSlice 26 n l.toArray, ty, pos, af, g⟩ st id tk K = bindO (evParts st l) fun ps => bindO (valsOf ps 0) fun xs => (∀ x ∈ xs, x.length = 1) ∧ xs.length = n ∧ n * 1 ≤ 16777216 ∧ K (PS.put { st with toks := upd st.toks tk ⟨3, 1, n⟩ } d (.row tk xs)) :=
  s_buildSlice Try.underlying26 sz3 z3 (by decide) rfl
-- 27: struct { Below bool; Figures []int }
theorem ag27 : aggT Try.prog 27 = some true := by kernel_rfl
theorem sz27 : sizeOf? Try.prog 27 = some 2 := by kernel_rfl
theorem z27 : zeroOf? Try.prog 27 = some (.agg #[.bool false, .slice none 0 0]) := by kernel_rfl
theorem by27 : bytesOf? Try.prog 27 = some 32 := by kernel_rfl
theorem fa27_0 {st : PS} {x : Operand} {K : PV → Prop} : fieldAddrK Try.prog st 27 x 0 K = bindO (st.ev x) (fldP 0 K) :=
  fld_ (P := Try.prog) (st := st) (x := x) (K := K) (f := 0) Try.underlying27 rfl sz4 (by decide)
theorem fi27_0 {st : PS} {x : Operand} {K : PV → Prop} : fieldK Try.prog st 27 x 0 K = bindO (st.ev x) (fieldP Try.prog 4 0 K) :=
  field_ (P := Try.prog) (st := st) (x := x) (K := K) (f := 0) Try.underlying27 rfl
theorem fa27_1 {st : PS} {x : Operand} {K : PV → Prop} : fieldAddrK Try.prog st 27 x 1 K = bindO (st.ev x) (fldP 1 K) :=
  fld_ (P := Try.prog) (st := st) (x := x) (K := K) (f := 1) Try.underlying27 rfl sz26 (by decide)
theorem fi27_1 {st : PS} {x : Operand} {K : PV → Prop} : fieldK Try.prog st 27 x 1 K = bindO (st.ev x) (fieldP Try.prog 26 1 K) :=
  field_ (P := Try.prog) (st := st) (x := x) (K := K) (f := 1) Try.underlying27 rfl
theorem bld27 {st : PS} {l : List (Nat × Operand)} {K : PV → Prop} : buildK Try.prog st 27 l K = bindO (evParts st l) fun ps => (ps.all fun e => match e.2 with | .tup _ => false | _ => true) = true ∧ bindO (fillP (fun i => [(0, 1), (1, 1)][i]?) [.val (.bool false), .val (.slice none 0 0)] ps) fun cs => K (.agg cs) :=
  buildC Try.underlying27 z27 (by kernel_rfl) rfl rfl
-- 28: chevalref02.N
theorem ag28 : aggT Try.prog 28 = some true := by kernel_rfl
theorem sz28 : sizeOf? Try.prog 28 = some 2 := by kernel_rfl
theorem z28 : zeroOf? Try.prog 28 = some (.agg #[.bool false, .slice none 0 0]) := by kernel_rfl
theorem by28 : bytesOf? Try.prog 28 = some 32 := by kernel_rfl
theorem fa28_0 {st : PS} {x : Operand} {K : PV → Prop} : fieldAddrK Try.prog st 28 x 0 K = bindO (st.ev x) (fldP 0 K) :=
  fld_ (P := Try.prog) (st := st) (x := x) (K := K) (f := 0) Try.underlying28 rfl sz4 (by decide)
theorem fi28_0 {st : PS} {x : Operand} {K : PV → Prop} : fieldK Try.prog st 28 x 0 K = bindO (st.ev x) (fieldP Try.prog 4 0 K) :=
  field_ (P := Try.prog) (st := st) (x := x) (K := K) (f := 0) Try.underlying28 rfl
theorem fa28_1 {st : PS} {x : Operand} {K : PV → Prop} : fieldAddrK Try.prog st 28 x 1 K = bindO (st.ev x) (fldP 1 K) :=
  fld_ (P := Try.prog) (st := st) (x := x) (K := K) (f := 1) Try.underlying28 rfl sz26 (by decide)
theorem fi28_1 {st : PS} {x : Operand} {K : PV → Prop} : fieldK Try.prog st 28 x 1 K = bindO (st.ev x) (fieldP Try.prog 26 1 K) :=
  field_ (P := Try.prog) (st := st) (x := x) (K := K) (f := 1) Try.underlying28 rfl
theorem bld28 {st : PS} {l : List (Nat × Operand)} {K : PV → Prop} : buildK Try.prog st 28 l K = bindO (evParts st l) fun ps => (ps.all fun e => match e.2 with | .tup _ => false | _ => true) = true ∧ bindO (fillP (fun i => [(0, 1), (1, 1)][i]?) [.val (.bool false), .val (.slice none 0 0)] ps) fun cs => K (.agg cs) :=
  buildC Try.underlying28 z28 (by kernel_rfl) rfl rfl
-- 29: func(int64) chevalref02.N
theorem ag29 : aggT Try.prog 29 = some false := by kernel_rfl
theorem sz29 : sizeOf? Try.prog 29 = some 1 := by kernel_rfl
theorem z29 : zeroOf? Try.prog 29 = some (.nilFunc) := by kernel_rfl
-- 30: func(chevalref02.N, chevalref02.N) chevalref02.N
theorem ag30 : aggT Try.prog 30 = some false := by kernel_rfl
theorem sz30 : sizeOf? Try.prog 30 = some 1 := by kernel_rfl
theorem z30 : zeroOf? Try.prog 30 = some (.nilFunc) := by kernel_rfl
-- 31: func(chevalref02.N, chevalref02.N) bool
theorem ag31 : aggT Try.prog 31 = some false := by kernel_rfl
theorem sz31 : sizeOf? Try.prog 31 = some 1 := by kernel_rfl
theorem z31 : zeroOf? Try.prog 31 = some (.nilFunc) := by kernel_rfl
-- 32: func(int64, int64) bool
theorem ag32 : aggT Try.prog 32 = some false := by kernel_rfl
theorem sz32 : sizeOf? Try.prog 32 = some 1 := by kernel_rfl
theorem z32 : zeroOf? Try.prog 32 = some (.nilFunc) := by kernel_rfl
-- 34: func(int64, int64) (int, api.Errno)
theorem ag34 : aggT Try.prog 34 = some false := by kernel_rfl
theorem sz34 : sizeOf? Try.prog 34 = some 1 := by kernel_rfl
theorem z34 : zeroOf? Try.prog 34 = some (.nilFunc) := by kernel_rfl
-- 35: func(chevalref02.N) chevalref02.N
theorem ag35 : aggT Try.prog 35 = some false := by kernel_rfl
theorem sz35 : sizeOf? Try.prog 35 = some 1 := by kernel_rfl
theorem z35 : zeroOf? Try.prog 35 = some (.nilFunc) := by kernel_rfl
-- 36: func(chevalref02.N) int64
theorem ag36 : aggT Try.prog 36 = some false := by kernel_rfl
theorem sz36 : sizeOf? Try.prog 36 = some 1 := by kernel_rfl
theorem z36 : zeroOf? Try.prog 36 = some (.nilFunc) := by kernel_rfl
-- 37: []int64
theorem ag37 : aggT Try.prog 37 = some false := by kernel_rfl
theorem sz37 : sizeOf? Try.prog 37 = some 1 := by kernel_rfl
theorem z37 : zeroOf? Try.prog 37 = some (.slice none 0 0) := by kernel_rfl
theorem by37 : bytesOf? Try.prog 37 = some 24 := by kernel_rfl
theorem app37 {st : PS} {tk : Nat} {x y : Operand} {K : Delta → Prop} : appendK Try.prog st tk ⟨.builtin .append, #[x, y], #[37, 37]⟩ K = bindO (st.ev x) fun d => bindO (st.ev y) fun s => bindO (srcXs st 1 s) fun ys0 => bindO (fzLL ys0) fun ys => (∀ y ∈ ys, y.length = 1) ∧ appT 2 1 8 st tk K d ys :=
  append_t Try.underlying37 sz2 by2 z2 rfl (by decide)
theorem bs37 {st : PS} {id tk n : Nat} {K : PS → Prop} {d : Option Tmp} {ty : TypeId} {pos : String} {af : Array Edge} {g : Option (Nat × Bool)} {l : List (Nat × Operand)} :
    stepN Try.prog ⟨d, .buildSlice 37 n l.toArray, ty, pos, af, g⟩ st id tk K = bindO (evParts st l) fun ps => bindO (valsOf ps 0) fun xs => (∀ x ∈ xs, x.length = 1) ∧ xs.length = n ∧ n * 1 ≤ 16777216 ∧ K (PS.put { st with toks := upd st.toks tk ⟨2, 1, n⟩ } d (.row tk xs)) :=
  s_buildSlice Try.underlying37 sz2 z2 (by decide) rfl
-- 38: func([]int64) (int64, api.Errno)
theorem ag38 : aggT Try.prog 38 = some false := by kernel_rfl
theorem sz38 : sizeOf? Try.prog 38 = some 1 := by kernel_rfl
theorem z38 : zeroOf? Try.prog 38 = some (.nilFunc) := by kernel_rfl
-- 39: func(int64, api.Errno, chevalref02.N) bool
theorem ag39 : aggT Try.prog 39 = some false := by kernel_rfl
theorem sz39 : sizeOf? Try.prog 39 = some 1 := by kernel_rfl
theorem z39 : zeroOf? Try.prog 39 = some (.nilFunc) := by kernel_rfl
-- 40: func([]int64) bool
theorem ag40 : aggT Try.prog 40 = some false := by kernel_rfl
theorem sz40 : sizeOf? Try.prog 40 = some 1 := by kernel_rfl
theorem z40 : zeroOf? Try.prog 40 = some (.nilFunc) := by kernel_rfl
-- 41: func(int64) (int64, api.Errno)
theorem ag41 : aggT Try.prog 41 = some false := by kernel_rfl
theorem sz41 : sizeOf? Try.prog 41 = some 1 := by kernel_rfl
theorem z41 : zeroOf? Try.prog 41 = some (.nilFunc) := by kernel_rfl
-- 42: func([]int, []int, int) []int
theorem ag42 : aggT Try.prog 42 = some false := by kernel_rfl
theorem sz42 : sizeOf? Try.prog 42 = some 1 := by kernel_rfl
theorem z42 : zeroOf? Try.prog 42 = some (.nilFunc) := by kernel_rfl
-- 43: func([]int, []int) bool
theorem ag43 : aggT Try.prog 43 = some false := by kernel_rfl
theorem sz43 : sizeOf? Try.prog 43 = some 1 := by kernel_rfl
theorem z43 : zeroOf? Try.prog 43 = some (.nilFunc) := by kernel_rfl
-- 44: uint64
theorem ag44 : aggT Try.prog 44 = some false := by kernel_rfl
theorem sz44 : sizeOf? Try.prog 44 = some 1 := by kernel_rfl
theorem z44 : zeroOf? Try.prog 44 = some (.int .u64 0) := by kernel_rfl
theorem by44 : bytesOf? Try.prog 44 = some 8 := by kernel_rfl
-- 46: func(uint64, uint64, uint64) (uint64, uint64)
theorem ag46 : aggT Try.prog 46 = some false := by kernel_rfl
theorem sz46 : sizeOf? Try.prog 46 = some 1 := by kernel_rfl
theorem z46 : zeroOf? Try.prog 46 = some (.nilFunc) := by kernel_rfl
-- 47: uint
theorem ag47 : aggT Try.prog 47 = some false := by kernel_rfl
theorem sz47 : sizeOf? Try.prog 47 = some 1 := by kernel_rfl
theorem z47 : zeroOf? Try.prog 47 = some (.int .u64 0) := by kernel_rfl
theorem by47 : bytesOf? Try.prog 47 = some 8 := by kernel_rfl
-- 48: func(int64, bool) (int64, api.Errno)
theorem ag48 : aggT Try.prog 48 = some false := by kernel_rfl
theorem sz48 : sizeOf? Try.prog 48 = some 1 := by kernel_rfl
theorem z48 : zeroOf? Try.prog 48 = some (.nilFunc) := by kernel_rfl
-- 49: func(chevalref02.N) bool
theorem ag49 : aggT Try.prog 49 = some false := by kernel_rfl
theorem sz49 : sizeOf? Try.prog 49 = some 1 := by kernel_rfl
theorem z49 : zeroOf? Try.prog 49 = some (.nilFunc) := by kernel_rfl
-- 50: func(uint64, uint64) (uint64, uint64)
theorem ag50 : aggT Try.prog 50 = some false := by kernel_rfl
theorem sz50 : sizeOf? Try.prog 50 = some 1 := by kernel_rfl
theorem z50 : zeroOf? Try.prog 50 = some (.nilFunc) := by kernel_rfl
-- 51: func(int64) uint64
theorem ag51 : aggT Try.prog 51 = some false := by kernel_rfl
theorem sz51 : sizeOf? Try.prog 51 = some 1 := by kernel_rfl
theorem z51 : zeroOf? Try.prog 51 = some (.nilFunc) := by kernel_rfl
-- 52: func() string
theorem ag52 : aggT Try.prog 52 = some false := by kernel_rfl
theorem sz52 : sizeOf? Try.prog 52 = some 1 := by kernel_rfl
theorem z52 : zeroOf? Try.prog 52 = some (.nilFunc) := by kernel_rfl
-- 55: [0]*runtime.PanicNilError
theorem ag55 : aggT Try.prog 55 = some true := by kernel_rfl
theorem sz55 : sizeOf? Try.prog 55 = some 0 := by kernel_rfl
theorem z55 : zeroOf? Try.prog 55 = some (.agg #[]) := by kernel_rfl
theorem by55 : bytesOf? Try.prog 55 = some 0 := by kernel_rfl
-- 56: struct { _ [0]*runtime.PanicNilError }
theorem ag56 : aggT Try.prog 56 = some true := by kernel_rfl
theorem sz56 : sizeOf? Try.prog 56 = some 0 := by kernel_rfl
theorem z56 : zeroOf? Try.prog 56 = some (.agg #[]) := by kernel_rfl
theorem by56 : bytesOf? Try.prog 56 = some 0 := by kernel_rfl
-- 58: func() int
theorem ag58 : aggT Try.prog 58 = some false := by kernel_rfl
theorem sz58 : sizeOf? Try.prog 58 = some 1 := by kernel_rfl
theorem z58 : zeroOf? Try.prog 58 = some (.nilFunc) := by kernel_rfl
-- 59: uint32
theorem ag59 : aggT Try.prog 59 = some false := by kernel_rfl
theorem sz59 : sizeOf? Try.prog 59 = some 1 := by kernel_rfl
theorem z59 : zeroOf? Try.prog 59 = some (.int .u32 0) := by kernel_rfl
theorem by59 : bytesOf? Try.prog 59 = some 4 := by kernel_rfl
-- 62: func(unsafe.Pointer, unsafe.Pointer) bool
theorem ag62 : aggT Try.prog 62 = some false := by kernel_rfl
theorem sz62 : sizeOf? Try.prog 62 = some 1 := by kernel_rfl
theorem z62 : zeroOf? Try.prog 62 = some (.nilFunc) := by kernel_rfl
-- 63: *uint8
theorem ag63 : aggT Try.prog 63 = some false := by kernel_rfl
theorem sz63 : sizeOf? Try.prog 63 = some 1 := by kernel_rfl
theorem z63 : zeroOf? Try.prog 63 = some (.pointer none) := by kernel_rfl
theorem by63 : bytesOf? Try.prog 63 = some 8 := by kernel_rfl
end Go.Proofs.Ytppefmkknmdfkaa
