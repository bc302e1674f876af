/-
  The types of this seat's program: sizes, zero values, the rules by which their operations are rewritten.
-/
import Derived.Test.YtppefmkknmdfkaaDoorProg
import Derived.Test.YtppefmkknmdfkaaDoorPwX
namespace Go.Proofs.YtppefmkknmdfkaaDoor
open Go Go.Pw
set_option linter.unusedVariables false
set_option maxRecDepth 4000
theorem ag1 : aggT Tryd.prog 1 = some false := by kernel_rfl
theorem sz1 : sizeOf? Tryd.prog 1 = some 1 := by kernel_rfl
theorem z1 : zeroOf? Tryd.prog 1 = some (.nilFunc) := by kernel_rfl
theorem ag2 : aggT Tryd.prog 2 = some false := by kernel_rfl
theorem sz2 : sizeOf? Tryd.prog 2 = some 1 := by kernel_rfl
theorem z2 : zeroOf? Tryd.prog 2 = some (.int .i64 0) := by kernel_rfl
theorem by2 : bytesOf? Tryd.prog 2 = some 8 := by kernel_rfl
theorem ag3 : aggT Tryd.prog 3 = some false := by kernel_rfl
theorem sz3 : sizeOf? Tryd.prog 3 = some 1 := by kernel_rfl
theorem z3 : zeroOf? Tryd.prog 3 = some (.int .i64 0) := by kernel_rfl
theorem by3 : bytesOf? Tryd.prog 3 = some 8 := by kernel_rfl
theorem ag4 : aggT Tryd.prog 4 = some false := by kernel_rfl
theorem sz4 : sizeOf? Tryd.prog 4 = some 1 := by kernel_rfl
theorem z4 : zeroOf? Tryd.prog 4 = some (.bool false) := by kernel_rfl
theorem by4 : bytesOf? Tryd.prog 4 = some 1 := by kernel_rfl
theorem ag5 : aggT Tryd.prog 5 = some false := by kernel_rfl
theorem sz5 : sizeOf? Tryd.prog 5 = some 1 := by kernel_rfl
theorem z5 : zeroOf? Tryd.prog 5 = some (.int .u8 0) := by kernel_rfl
theorem by5 : bytesOf? Tryd.prog 5 = some 1 := by kernel_rfl
theorem ag9 : aggT Tryd.prog 9 = some false := by kernel_rfl
theorem sz9 : sizeOf? Tryd.prog 9 = some 1 := by kernel_rfl
theorem z9 : zeroOf? Tryd.prog 9 = some (.string ByteArray.empty) := by kernel_rfl
theorem by9 : bytesOf? Tryd.prog 9 = some 16 := by kernel_rfl
theorem ag12 : aggT Tryd.prog 12 = some false := by kernel_rfl
theorem sz12 : sizeOf? Tryd.prog 12 = some 1 := by kernel_rfl
theorem z12 : zeroOf? Tryd.prog 12 = some (.int .u64 0) := by kernel_rfl
theorem by12 : bytesOf? Tryd.prog 12 = some 8 := by kernel_rfl
theorem ag13 : aggT Tryd.prog 13 = some true := by kernel_rfl
theorem sz13 : sizeOf? Tryd.prog 13 = some 2 := by kernel_rfl
theorem z13 : zeroOf? Tryd.prog 13 = some (.agg #[.string ByteArray.empty, .int .u64 0]) := by kernel_rfl
theorem by13 : bytesOf? Tryd.prog 13 = some 24 := by kernel_rfl
theorem ag20 : aggT Tryd.prog 20 = some false := by kernel_rfl
theorem sz20 : sizeOf? Tryd.prog 20 = some 1 := by kernel_rfl
theorem z20 : zeroOf? Tryd.prog 20 = some (.nilIface) := by kernel_rfl
theorem ag21 : aggT Tryd.prog 21 = some false := by kernel_rfl
theorem sz21 : sizeOf? Tryd.prog 21 = some 1 := by kernel_rfl
theorem z21 : zeroOf? Tryd.prog 21 = some (.int .i32 0) := by kernel_rfl
theorem by21 : bytesOf? Tryd.prog 21 = some 4 := by kernel_rfl
theorem ag22 : aggT Tryd.prog 22 = some false := by kernel_rfl
theorem sz22 : sizeOf? Tryd.prog 22 = some 1 := by kernel_rfl
theorem z22 : zeroOf? Tryd.prog 22 = some (.nilFunc) := by kernel_rfl
theorem ag23 : aggT Tryd.prog 23 = some false := by kernel_rfl
theorem sz23 : sizeOf? Tryd.prog 23 = some 1 := by kernel_rfl
theorem z23 : zeroOf? Tryd.prog 23 = some (.int .i64 0) := by kernel_rfl
theorem by23 : bytesOf? Tryd.prog 23 = some 8 := by kernel_rfl
theorem ag25 : aggT Tryd.prog 25 = some false := by kernel_rfl
theorem sz25 : sizeOf? Tryd.prog 25 = some 1 := by kernel_rfl
theorem z25 : zeroOf? Tryd.prog 25 = some (.nilFunc) := by kernel_rfl
theorem ag26 : aggT Tryd.prog 26 = some false := by kernel_rfl
theorem sz26 : sizeOf? Tryd.prog 26 = some 1 := by kernel_rfl
theorem z26 : zeroOf? Tryd.prog 26 = some (.slice none 0 0) := by kernel_rfl
theorem by26 : bytesOf? Tryd.prog 26 = some 24 := by kernel_rfl
theorem ag27 : aggT Tryd.prog 27 = some true := by kernel_rfl
theorem sz27 : sizeOf? Tryd.prog 27 = some 2 := by kernel_rfl
theorem z27 : zeroOf? Tryd.prog 27 = some (.agg #[.bool false, .slice none 0 0]) := by kernel_rfl
theorem by27 : bytesOf? Tryd.prog 27 = some 32 := by kernel_rfl
theorem ag28 : aggT Tryd.prog 28 = some true := by kernel_rfl
theorem sz28 : sizeOf? Tryd.prog 28 = some 2 := by kernel_rfl
theorem z28 : zeroOf? Tryd.prog 28 = some (.agg #[.bool false, .slice none 0 0]) := by kernel_rfl
theorem by28 : bytesOf? Tryd.prog 28 = some 32 := by kernel_rfl
theorem ag30 : aggT Tryd.prog 30 = some false := by kernel_rfl
theorem sz30 : sizeOf? Tryd.prog 30 = some 1 := by kernel_rfl
theorem z30 : zeroOf? Tryd.prog 30 = some (.nilFunc) := by kernel_rfl
theorem ag31 : aggT Tryd.prog 31 = some false := by kernel_rfl
theorem sz31 : sizeOf? Tryd.prog 31 = some 1 := by kernel_rfl
theorem z31 : zeroOf? Tryd.prog 31 = some (.nilFunc) := by kernel_rfl
theorem ag32 : aggT Tryd.prog 32 = some false := by kernel_rfl
theorem sz32 : sizeOf? Tryd.prog 32 = some 1 := by kernel_rfl
theorem z32 : zeroOf? Tryd.prog 32 = some (.nilFunc) := by kernel_rfl
theorem ag33 : aggT Tryd.prog 33 = some false := by kernel_rfl
theorem sz33 : sizeOf? Tryd.prog 33 = some 1 := by kernel_rfl
theorem z33 : zeroOf? Tryd.prog 33 = some (.nilFunc) := by kernel_rfl
theorem ag34 : aggT Tryd.prog 34 = some false := by kernel_rfl
theorem sz34 : sizeOf? Tryd.prog 34 = some 1 := by kernel_rfl
theorem z34 : zeroOf? Tryd.prog 34 = some (.nilFunc) := by kernel_rfl
theorem ag35 : aggT Tryd.prog 35 = some false := by kernel_rfl
theorem sz35 : sizeOf? Tryd.prog 35 = some 1 := by kernel_rfl
theorem z35 : zeroOf? Tryd.prog 35 = some (.nilFunc) := by kernel_rfl
theorem ag36 : aggT Tryd.prog 36 = some false := by kernel_rfl
theorem sz36 : sizeOf? Tryd.prog 36 = some 1 := by kernel_rfl
theorem z36 : zeroOf? Tryd.prog 36 = some (.nilFunc) := by kernel_rfl
theorem ag37 : aggT Tryd.prog 37 = some false := by kernel_rfl
theorem sz37 : sizeOf? Tryd.prog 37 = some 1 := by kernel_rfl
theorem z37 : zeroOf? Tryd.prog 37 = some (.nilFunc) := by kernel_rfl
theorem ag38 : aggT Tryd.prog 38 = some false := by kernel_rfl
theorem sz38 : sizeOf? Tryd.prog 38 = some 1 := by kernel_rfl
theorem z38 : zeroOf? Tryd.prog 38 = some (.nilIface) := by kernel_rfl
theorem ag39 : aggT Tryd.prog 39 = some false := by kernel_rfl
theorem sz39 : sizeOf? Tryd.prog 39 = some 1 := by kernel_rfl
theorem z39 : zeroOf? Tryd.prog 39 = some (.nilIface) := by kernel_rfl
theorem by39 : bytesOf? Tryd.prog 39 = some 16 := by kernel_rfl
theorem ag41 : aggT Tryd.prog 41 = some false := by kernel_rfl
theorem sz41 : sizeOf? Tryd.prog 41 = some 1 := by kernel_rfl
theorem z41 : zeroOf? Tryd.prog 41 = some (.nilFunc) := by kernel_rfl
theorem ag42 : aggT Tryd.prog 42 = some false := by kernel_rfl
theorem sz42 : sizeOf? Tryd.prog 42 = some 1 := by kernel_rfl
theorem z42 : zeroOf? Tryd.prog 42 = some (.nilFunc) := by kernel_rfl
theorem ag43 : aggT Tryd.prog 43 = some false := by kernel_rfl
theorem sz43 : sizeOf? Tryd.prog 43 = some 1 := by kernel_rfl
theorem z43 : zeroOf? Tryd.prog 43 = some (.nilFunc) := by kernel_rfl
theorem ag44 : aggT Tryd.prog 44 = some false := by kernel_rfl
theorem sz44 : sizeOf? Tryd.prog 44 = some 1 := by kernel_rfl
theorem z44 : zeroOf? Tryd.prog 44 = some (.nilFunc) := by kernel_rfl
theorem ag45 : aggT Tryd.prog 45 = some false := by kernel_rfl
theorem sz45 : sizeOf? Tryd.prog 45 = some 1 := by kernel_rfl
theorem z45 : zeroOf? Tryd.prog 45 = some (.nilFunc) := by kernel_rfl
theorem ag46 : aggT Tryd.prog 46 = some false := by kernel_rfl
theorem sz46 : sizeOf? Tryd.prog 46 = some 1 := by kernel_rfl
theorem z46 : zeroOf? Tryd.prog 46 = some (.nilFunc) := by kernel_rfl
theorem ag47 : aggT Tryd.prog 47 = some false := by kernel_rfl
theorem sz47 : sizeOf? Tryd.prog 47 = some 1 := by kernel_rfl
theorem z47 : zeroOf? Tryd.prog 47 = some (.nilFunc) := by kernel_rfl
theorem ag48 : aggT Tryd.prog 48 = some false := by kernel_rfl
theorem sz48 : sizeOf? Tryd.prog 48 = some 1 := by kernel_rfl
theorem z48 : zeroOf? Tryd.prog 48 = some (.nilFunc) := by kernel_rfl
theorem ag49 : aggT Tryd.prog 49 = some false := by kernel_rfl
theorem sz49 : sizeOf? Tryd.prog 49 = some 1 := by kernel_rfl
theorem z49 : zeroOf? Tryd.prog 49 = some (.nilFunc) := by kernel_rfl
theorem ag50 : aggT Tryd.prog 50 = some false := by kernel_rfl
theorem sz50 : sizeOf? Tryd.prog 50 = some 1 := by kernel_rfl
theorem z50 : zeroOf? Tryd.prog 50 = some (.nilFunc) := by kernel_rfl
theorem ag51 : aggT Tryd.prog 51 = some false := by kernel_rfl
theorem sz51 : sizeOf? Tryd.prog 51 = some 1 := by kernel_rfl
theorem z51 : zeroOf? Tryd.prog 51 = some (.int .i64 0) := by kernel_rfl
theorem by51 : bytesOf? Tryd.prog 51 = some 8 := by kernel_rfl
theorem ag52 : aggT Tryd.prog 52 = some false := by kernel_rfl
theorem sz52 : sizeOf? Tryd.prog 52 = some 1 := by kernel_rfl
theorem z52 : zeroOf? Tryd.prog 52 = some (.int .u64 0) := by kernel_rfl
theorem by52 : bytesOf? Tryd.prog 52 = some 8 := by kernel_rfl
theorem ag54 : aggT Tryd.prog 54 = some false := by kernel_rfl
theorem sz54 : sizeOf? Tryd.prog 54 = some 1 := by kernel_rfl
theorem z54 : zeroOf? Tryd.prog 54 = some (.nilFunc) := by kernel_rfl
theorem ag55 : aggT Tryd.prog 55 = some false := by kernel_rfl
theorem sz55 : sizeOf? Tryd.prog 55 = some 1 := by kernel_rfl
theorem z55 : zeroOf? Tryd.prog 55 = some (.int .u64 0) := by kernel_rfl
theorem by55 : bytesOf? Tryd.prog 55 = some 8 := by kernel_rfl
theorem ag56 : aggT Tryd.prog 56 = some false := by kernel_rfl
theorem sz56 : sizeOf? Tryd.prog 56 = some 1 := by kernel_rfl
theorem z56 : zeroOf? Tryd.prog 56 = some (.pointer none) := by kernel_rfl
theorem by56 : bytesOf? Tryd.prog 56 = some 8 := by kernel_rfl
theorem ag57 : aggT Tryd.prog 57 = some false := by kernel_rfl
theorem sz57 : sizeOf? Tryd.prog 57 = some 1 := by kernel_rfl
theorem z57 : zeroOf? Tryd.prog 57 = some (.nilFunc) := by kernel_rfl
theorem ag58 : aggT Tryd.prog 58 = some false := by kernel_rfl
theorem sz58 : sizeOf? Tryd.prog 58 = some 1 := by kernel_rfl
theorem z58 : zeroOf? Tryd.prog 58 = some (.nilFunc) := by kernel_rfl
theorem ag59 : aggT Tryd.prog 59 = some false := by kernel_rfl
theorem sz59 : sizeOf? Tryd.prog 59 = some 1 := by kernel_rfl
theorem z59 : zeroOf? Tryd.prog 59 = some (.nilFunc) := by kernel_rfl
theorem ag60 : aggT Tryd.prog 60 = some false := by kernel_rfl
theorem sz60 : sizeOf? Tryd.prog 60 = some 1 := by kernel_rfl
theorem z60 : zeroOf? Tryd.prog 60 = some (.nilFunc) := by kernel_rfl
theorem ag61 : aggT Tryd.prog 61 = some false := by kernel_rfl
theorem sz61 : sizeOf? Tryd.prog 61 = some 1 := by kernel_rfl
theorem z61 : zeroOf? Tryd.prog 61 = some (.nilFunc) := by kernel_rfl
theorem ag62 : aggT Tryd.prog 62 = some true := by kernel_rfl
theorem sz62 : sizeOf? Tryd.prog 62 = some 24 := by kernel_rfl
theorem z62 : zeroOf? Tryd.prog 62 = some (.agg #[.int .u8 0, .int .u8 0, .int .u8 0, .int .u8 0, .int .u8 0, .int .u8 0, .int .u8 0, .int .u8 0, .int .u8 0, .int .u8 0, .int .u8 0, .int .u8 0, .int .u8 0, .int .u8 0, .int .u8 0, .int .u8 0, .int .u8 0, .int .u8 0, .int .u8 0, .int .u8 0, .int .u8 0, .int .u8 0, .int .u8 0, .int .u8 0]) := by kernel_rfl
theorem by62 : bytesOf? Tryd.prog 62 = some 24 := by kernel_rfl
theorem ag63 : aggT Tryd.prog 63 = some false := by kernel_rfl
theorem sz63 : sizeOf? Tryd.prog 63 = some 1 := by kernel_rfl
theorem z63 : zeroOf? Tryd.prog 63 = some (.nilFunc) := by kernel_rfl
theorem ag64 : aggT Tryd.prog 64 = some false := by kernel_rfl
theorem sz64 : sizeOf? Tryd.prog 64 = some 1 := by kernel_rfl
theorem z64 : zeroOf? Tryd.prog 64 = some (.nilFunc) := by kernel_rfl
theorem ag65 : aggT Tryd.prog 65 = some false := by kernel_rfl
theorem sz65 : sizeOf? Tryd.prog 65 = some 1 := by kernel_rfl
theorem z65 : zeroOf? Tryd.prog 65 = some (.slice none 0 0) := by kernel_rfl
theorem by65 : bytesOf? Tryd.prog 65 = some 24 := by kernel_rfl
theorem ag67 : aggT Tryd.prog 67 = some false := by kernel_rfl
theorem sz67 : sizeOf? Tryd.prog 67 = some 1 := by kernel_rfl
theorem z67 : zeroOf? Tryd.prog 67 = some (.nilFunc) := by kernel_rfl
theorem ag68 : aggT Tryd.prog 68 = some false := by kernel_rfl
theorem sz68 : sizeOf? Tryd.prog 68 = some 1 := by kernel_rfl
theorem z68 : zeroOf? Tryd.prog 68 = some (.nilFunc) := by kernel_rfl
theorem ag69 : aggT Tryd.prog 69 = some false := by kernel_rfl
theorem sz69 : sizeOf? Tryd.prog 69 = some 1 := by kernel_rfl
theorem z69 : zeroOf? Tryd.prog 69 = some (.nilFunc) := by kernel_rfl
theorem ag70 : aggT Tryd.prog 70 = some false := by kernel_rfl
theorem sz70 : sizeOf? Tryd.prog 70 = some 1 := by kernel_rfl
theorem z70 : zeroOf? Tryd.prog 70 = some (.nilFunc) := by kernel_rfl
theorem ag71 : aggT Tryd.prog 71 = some false := by kernel_rfl
theorem sz71 : sizeOf? Tryd.prog 71 = some 1 := by kernel_rfl
theorem z71 : zeroOf? Tryd.prog 71 = some (.nilFunc) := by kernel_rfl
theorem ag72 : aggT Tryd.prog 72 = some true := by kernel_rfl
theorem sz72 : sizeOf? Tryd.prog 72 = some 3 := by kernel_rfl
theorem z72 : zeroOf? Tryd.prog 72 = some (.agg #[.string ByteArray.empty, .string ByteArray.empty, .nilIface]) := by kernel_rfl
theorem by72 : bytesOf? Tryd.prog 72 = some 48 := by kernel_rfl
theorem ag73 : aggT Tryd.prog 73 = some true := by kernel_rfl
theorem sz73 : sizeOf? Tryd.prog 73 = some 3 := by kernel_rfl
theorem z73 : zeroOf? Tryd.prog 73 = some (.agg #[.string ByteArray.empty, .string ByteArray.empty, .nilIface]) := by kernel_rfl
theorem by73 : bytesOf? Tryd.prog 73 = some 48 := by kernel_rfl
theorem ag74 : aggT Tryd.prog 74 = some false := by kernel_rfl
theorem sz74 : sizeOf? Tryd.prog 74 = some 1 := by kernel_rfl
theorem z74 : zeroOf? Tryd.prog 74 = some (.nilFunc) := by kernel_rfl
theorem ag75 : aggT Tryd.prog 75 = some false := by kernel_rfl
theorem sz75 : sizeOf? Tryd.prog 75 = some 1 := by kernel_rfl
theorem z75 : zeroOf? Tryd.prog 75 = some (.nilFunc) := by kernel_rfl
theorem ag76 : aggT Tryd.prog 76 = some false := by kernel_rfl
theorem sz76 : sizeOf? Tryd.prog 76 = some 1 := by kernel_rfl
theorem z76 : zeroOf? Tryd.prog 76 = some (.nilFunc) := by kernel_rfl
theorem ag77 : aggT Tryd.prog 77 = some true := by kernel_rfl
theorem sz77 : sizeOf? Tryd.prog 77 = some 20 := by kernel_rfl
theorem z77 : zeroOf? Tryd.prog 77 = some (.agg #[.int .u64 0, .int .u64 0, .int .u64 0, .int .u64 0, .int .u64 0, .int .u64 0, .int .u64 0, .int .u64 0, .int .u64 0, .int .u64 0, .int .u64 0, .int .u64 0, .int .u64 0, .int .u64 0, .int .u64 0, .int .u64 0, .int .u64 0, .int .u64 0, .int .u64 0, .int .u64 0]) := by kernel_rfl
theorem by77 : bytesOf? Tryd.prog 77 = some 160 := by kernel_rfl
theorem ag78 : aggT Tryd.prog 78 = some false := by kernel_rfl
theorem sz78 : sizeOf? Tryd.prog 78 = some 1 := by kernel_rfl
theorem z78 : zeroOf? Tryd.prog 78 = some (.int .u32 0) := by kernel_rfl
theorem by78 : bytesOf? Tryd.prog 78 = some 4 := by kernel_rfl
theorem ag80 : aggT Tryd.prog 80 = some false := by kernel_rfl
theorem sz80 : sizeOf? Tryd.prog 80 = some 1 := by kernel_rfl
theorem z80 : zeroOf? Tryd.prog 80 = some (.nilFunc) := by kernel_rfl
theorem ag81 : aggT Tryd.prog 81 = some false := by kernel_rfl
theorem sz81 : sizeOf? Tryd.prog 81 = some 1 := by kernel_rfl
theorem z81 : zeroOf? Tryd.prog 81 = some (.nilFunc) := by kernel_rfl
theorem ag82 : aggT Tryd.prog 82 = some false := by kernel_rfl
theorem sz82 : sizeOf? Tryd.prog 82 = some 1 := by kernel_rfl
theorem z82 : zeroOf? Tryd.prog 82 = some (.pointer none) := by kernel_rfl
theorem by82 : bytesOf? Tryd.prog 82 = some 8 := by kernel_rfl
theorem ag83 : aggT Tryd.prog 83 = some false := by kernel_rfl
theorem sz83 : sizeOf? Tryd.prog 83 = some 1 := by kernel_rfl
theorem z83 : zeroOf? Tryd.prog 83 = some (.pointer none) := by kernel_rfl
theorem by83 : bytesOf? Tryd.prog 83 = some 8 := by kernel_rfl
theorem ag84 : aggT Tryd.prog 84 = some true := by kernel_rfl
theorem sz84 : sizeOf? Tryd.prog 84 = some 1 := by kernel_rfl
theorem z84 : zeroOf? Tryd.prog 84 = some (.agg #[.string ByteArray.empty]) := by kernel_rfl
theorem by84 : bytesOf? Tryd.prog 84 = some 16 := by kernel_rfl
theorem ag85 : aggT Tryd.prog 85 = some true := by kernel_rfl
theorem sz85 : sizeOf? Tryd.prog 85 = some 1 := by kernel_rfl
theorem z85 : zeroOf? Tryd.prog 85 = some (.agg #[.string ByteArray.empty]) := by kernel_rfl
theorem by85 : bytesOf? Tryd.prog 85 = some 16 := by kernel_rfl
theorem ag86 : aggT Tryd.prog 86 = some false := by kernel_rfl
theorem sz86 : sizeOf? Tryd.prog 86 = some 1 := by kernel_rfl
theorem z86 : zeroOf? Tryd.prog 86 = some (.nilFunc) := by kernel_rfl
theorem ag87 : aggT Tryd.prog 87 = some true := by kernel_rfl
theorem sz87 : sizeOf? Tryd.prog 87 = some 32 := by kernel_rfl
theorem z87 : zeroOf? Tryd.prog 87 = some (.agg #[.int .u8 0, .int .u8 0, .int .u8 0, .int .u8 0, .int .u8 0, .int .u8 0, .int .u8 0, .int .u8 0, .int .u8 0, .int .u8 0, .int .u8 0, .int .u8 0, .int .u8 0, .int .u8 0, .int .u8 0, .int .u8 0, .int .u8 0, .int .u8 0, .int .u8 0, .int .u8 0, .int .u8 0, .int .u8 0, .int .u8 0, .int .u8 0, .int .u8 0, .int .u8 0, .int .u8 0, .int .u8 0, .int .u8 0, .int .u8 0, .int .u8 0, .int .u8 0]) := by kernel_rfl
theorem by87 : bytesOf? Tryd.prog 87 = some 32 := by kernel_rfl
theorem ag88 : aggT Tryd.prog 88 = some true := by kernel_rfl
theorem sz88 : sizeOf? Tryd.prog 88 = some 64 := by kernel_rfl
theorem z88 : zeroOf? Tryd.prog 88 = some (.agg #[.int .u8 0, .int .u8 0, .int .u8 0, .int .u8 0, .int .u8 0, .int .u8 0, .int .u8 0, .int .u8 0, .int .u8 0, .int .u8 0, .int .u8 0, .int .u8 0, .int .u8 0, .int .u8 0, .int .u8 0, .int .u8 0, .int .u8 0, .int .u8 0, .int .u8 0, .int .u8 0, .int .u8 0, .int .u8 0, .int .u8 0, .int .u8 0, .int .u8 0, .int .u8 0, .int .u8 0, .int .u8 0, .int .u8 0, .int .u8 0, .int .u8 0, .int .u8 0, .int .u8 0, .int .u8 0, .int .u8 0, .int .u8 0, .int .u8 0, .int .u8 0, .int .u8 0, .int .u8 0, .int .u8 0, .int .u8 0, .int .u8 0, .int .u8 0, .int .u8 0, .int .u8 0, .int .u8 0, .int .u8 0, .int .u8 0, .int .u8 0, .int .u8 0, .int .u8 0, .int .u8 0, .int .u8 0, .int .u8 0, .int .u8 0, .int .u8 0, .int .u8 0, .int .u8 0, .int .u8 0, .int .u8 0, .int .u8 0, .int .u8 0, .int .u8 0]) := by kernel_rfl
theorem by88 : bytesOf? Tryd.prog 88 = some 64 := by kernel_rfl
theorem ag89 : aggT Tryd.prog 89 = some false := by kernel_rfl
theorem sz89 : sizeOf? Tryd.prog 89 = some 1 := by kernel_rfl
theorem z89 : zeroOf? Tryd.prog 89 = some (.nilFunc) := by kernel_rfl
theorem ag92 : aggT Tryd.prog 92 = some true := by kernel_rfl
theorem sz92 : sizeOf? Tryd.prog 92 = some 0 := by kernel_rfl
theorem z92 : zeroOf? Tryd.prog 92 = some (.agg #[]) := by kernel_rfl
theorem by92 : bytesOf? Tryd.prog 92 = some 0 := by kernel_rfl
theorem ag93 : aggT Tryd.prog 93 = some true := by kernel_rfl
theorem sz93 : sizeOf? Tryd.prog 93 = some 0 := by kernel_rfl
theorem z93 : zeroOf? Tryd.prog 93 = some (.agg #[]) := by kernel_rfl
theorem by93 : bytesOf? Tryd.prog 93 = some 0 := by kernel_rfl
theorem ag95 : aggT Tryd.prog 95 = some false := by kernel_rfl
theorem sz95 : sizeOf? Tryd.prog 95 = some 1 := by kernel_rfl
theorem z95 : zeroOf? Tryd.prog 95 = some (.nilFunc) := by kernel_rfl
theorem ag98 : aggT Tryd.prog 98 = some false := by kernel_rfl
theorem sz98 : sizeOf? Tryd.prog 98 = some 1 := by kernel_rfl
theorem z98 : zeroOf? Tryd.prog 98 = some (.nilFunc) := by kernel_rfl
-- 1: func()
theorem rdo1 {cs : List PV} {off : Nat} : readCells Tryd.prog 1 cs off = cs[off]? := rd_one ag1
-- 2: int64
theorem rdo2 {cs : List PV} {off : Nat} : readCells Tryd.prog 2 cs off = cs[off]? := rd_one ag2
theorem alc2 {dr : Bool} {st : PS} {id tk : Nat} {K : PS → Prop} {d : Option Tmp} {ty : TypeId} {pos : String} {af : Array Edge} {g : Option (Nat × Bool)} : stepN dr Tryd.prog ⟨d, .alloc 2, ty, pos, af, g⟩ st id tk K = K (PS.put { st with heap := (id, .box 2 [.val (.int .i64 0)]) :: st.heap } d (.ptr id 0)) := s_allocC z2 rfl rfl
theorem mki2 {dr : Bool} {st : PS} {id tk : Nat} {K : PS → Prop} {d : Option Tmp} {ty : TypeId} {pos : String} {af : Array Edge} {g : Option (Nat × Bool)} {x : Operand} : stepN dr Tryd.prog ⟨d, .makeInterface 2 x, ty, pos, af, g⟩ st id tk K = bindO (st.ev x) fun p => K (st.put d (.iface 2 p)) := s_makeIface Tryd.underlying2 rfl
-- 3: int
theorem rdo3 {cs : List PV} {off : Nat} : readCells Tryd.prog 3 cs off = cs[off]? := rd_one ag3
theorem alc3 {dr : Bool} {st : PS} {id tk : Nat} {K : PS → Prop} {d : Option Tmp} {ty : TypeId} {pos : String} {af : Array Edge} {g : Option (Nat × Bool)} : stepN dr Tryd.prog ⟨d, .alloc 3, ty, pos, af, g⟩ st id tk K = K (PS.put { st with heap := (id, .box 3 [.val (.int .i64 0)]) :: st.heap } d (.ptr id 0)) := s_allocC z3 rfl rfl
theorem mki3 {dr : Bool} {st : PS} {id tk : Nat} {K : PS → Prop} {d : Option Tmp} {ty : TypeId} {pos : String} {af : Array Edge} {g : Option (Nat × Bool)} {x : Operand} : stepN dr Tryd.prog ⟨d, .makeInterface 3 x, ty, pos, af, g⟩ st id tk K = bindO (st.ev x) fun p => K (st.put d (.iface 3 p)) := s_makeIface Tryd.underlying3 rfl
-- 4: bool
theorem rdo4 {cs : List PV} {off : Nat} : readCells Tryd.prog 4 cs off = cs[off]? := rd_one ag4
theorem alc4 {dr : Bool} {st : PS} {id tk : Nat} {K : PS → Prop} {d : Option Tmp} {ty : TypeId} {pos : String} {af : Array Edge} {g : Option (Nat × Bool)} : stepN dr Tryd.prog ⟨d, .alloc 4, ty, pos, af, g⟩ st id tk K = K (PS.put { st with heap := (id, .box 4 [.val (.bool false)]) :: st.heap } d (.ptr id 0)) := s_allocC z4 rfl rfl
-- 5: uint8
theorem rdo5 {cs : List PV} {off : Nat} : readCells Tryd.prog 5 cs off = cs[off]? := rd_one ag5
theorem alc5 {dr : Bool} {st : PS} {id tk : Nat} {K : PS → Prop} {d : Option Tmp} {ty : TypeId} {pos : String} {af : Array Edge} {g : Option (Nat × Bool)} : stepN dr Tryd.prog ⟨d, .alloc 5, ty, pos, af, g⟩ st id tk K = K (PS.put { st with heap := (id, .box 5 [.val (.int .u8 0)]) :: st.heap } d (.ptr id 0)) := s_allocC z5 rfl rfl
theorem mki5 {dr : Bool} {st : PS} {id tk : Nat} {K : PS → Prop} {d : Option Tmp} {ty : TypeId} {pos : String} {af : Array Edge} {g : Option (Nat × Bool)} {x : Operand} : stepN dr Tryd.prog ⟨d, .makeInterface 5 x, ty, pos, af, g⟩ st id tk K = bindO (st.ev x) fun p => K (st.put d (.iface 5 p)) := s_makeIface Tryd.underlying5 rfl
-- 9: string
theorem rdo9 {cs : List PV} {off : Nat} : readCells Tryd.prog 9 cs off = cs[off]? := rd_one ag9
theorem alc9 {dr : Bool} {st : PS} {id tk : Nat} {K : PS → Prop} {d : Option Tmp} {ty : TypeId} {pos : String} {af : Array Edge} {g : Option (Nat × Bool)} : stepN dr Tryd.prog ⟨d, .alloc 9, ty, pos, af, g⟩ st id tk K = K (PS.put { st with heap := (id, .box 9 [.val (.string ByteArray.empty)]) :: st.heap } d (.ptr id 0)) := s_allocC z9 rfl rfl
theorem mki9 {dr : Bool} {st : PS} {id tk : Nat} {K : PS → Prop} {d : Option Tmp} {ty : TypeId} {pos : String} {af : Array Edge} {g : Option (Nat × Bool)} {x : Operand} : stepN dr Tryd.prog ⟨d, .makeInterface 9 x, ty, pos, af, g⟩ st id tk K = bindO (st.ev x) fun p => K (st.put d (.iface 9 p)) := s_makeIface Tryd.underlying9 rfl
theorem rng9 {dr : Bool} {st : PS} {id tk : Nat} {K : PS → Prop} {d : Option Tmp} {ty : TypeId} {pos : String} {af : Array Edge} {g : Option (Nat × Bool)} {x : Operand} : stepN dr Tryd.prog ⟨d, .range 9 x, ty, pos, af, g⟩ st id tk K = bindO (st.ev x) (rngP id d st K) := s_range Tryd.underlying9
theorem lns9 {st : PS} {x : Operand} {K : PV → Prop} : lenK Tryd.prog st 9 x K = bindO (st.ev x) (lenS K) := len_string Tryd.underlying9
theorem ixs9 {st : PS} {x y : Operand} {K : PV → Prop} : indexK Tryd.prog st 9 x y K = bindO (st.ev x) fun p => bindO (st.ev y) fun q => intK q fun i => ixS i K p := ix_string Tryd.underlying9
theorem sls9 {st : PS} {x : Operand} {lo hi : Option Operand} {K : PV → Prop} : sliceK Tryd.prog st 9 x lo hi K = bindO (st.ev x) (slcS st lo hi K) := slc_string Tryd.underlying9
-- 12: uintptr
theorem rdo12 {cs : List PV} {off : Nat} : readCells Tryd.prog 12 cs off = cs[off]? := rd_one ag12
theorem alc12 {dr : Bool} {st : PS} {id tk : Nat} {K : PS → Prop} {d : Option Tmp} {ty : TypeId} {pos : String} {af : Array Edge} {g : Option (Nat × Bool)} : stepN dr Tryd.prog ⟨d, .alloc 12, ty, pos, af, g⟩ st id tk K = K (PS.put { st with heap := (id, .box 12 [.val (.int .u64 0)]) :: st.heap } d (.ptr id 0)) := s_allocC z12 rfl rfl
theorem mki12 {dr : Bool} {st : PS} {id tk : Nat} {K : PS → Prop} {d : Option Tmp} {ty : TypeId} {pos : String} {af : Array Edge} {g : Option (Nat × Bool)} {x : Operand} : stepN dr Tryd.prog ⟨d, .makeInterface 12 x, ty, pos, af, g⟩ st id tk K = bindO (st.ev x) fun p => K (st.put d (.iface 12 p)) := s_makeIface Tryd.underlying12 rfl
-- 13: struct { msg string; addr uintptr }
theorem rda13 {cs : List PV} {off : Nat} : readCells Tryd.prog 13 cs off = if off + 2 ≤ cs.length then some (.agg ((cs.drop off).take 2)) else none := rd_agg ag13 sz13
theorem alc13 {dr : Bool} {st : PS} {id tk : Nat} {K : PS → Prop} {d : Option Tmp} {ty : TypeId} {pos : String} {af : Array Edge} {g : Option (Nat × Bool)} : stepN dr Tryd.prog ⟨d, .alloc 13, ty, pos, af, g⟩ st id tk K = K (PS.put { st with heap := (id, .box 13 [.val (.string ByteArray.empty), .val (.int .u64 0)]) :: st.heap } d (.ptr id 0)) := s_allocC z13 rfl rfl
theorem mki13 {dr : Bool} {st : PS} {id tk : Nat} {K : PS → Prop} {d : Option Tmp} {ty : TypeId} {pos : String} {af : Array Edge} {g : Option (Nat × Bool)} {x : Operand} : stepN dr Tryd.prog ⟨d, .makeInterface 13 x, ty, pos, af, g⟩ st id tk K = bindO (st.ev x) fun p => K (st.put d (.iface 13 p)) := s_makeIface Tryd.underlying13 rfl
theorem fa13_0 {st : PS} {x : Operand} {K : PV → Prop} : fieldAddrK Tryd.prog st 13 x 0 K = bindO (st.ev x) (fldP 0 K) :=
  fld_ (P := Tryd.prog) (st := st) (x := x) (K := K) (f := 0) Tryd.underlying13 rfl sz9 (by decide)
theorem fi13_0 {st : PS} {x : Operand} {K : PV → Prop} : fieldK Tryd.prog st 13 x 0 K = bindO (st.ev x) (fieldP Tryd.prog 9 0 K) :=
  field_ (P := Tryd.prog) (st := st) (x := x) (K := K) (f := 0) Tryd.underlying13 rfl
theorem fa13_1 {st : PS} {x : Operand} {K : PV → Prop} : fieldAddrK Tryd.prog st 13 x 1 K = bindO (st.ev x) (fldP 1 K) :=
  fld_ (P := Tryd.prog) (st := st) (x := x) (K := K) (f := 1) Tryd.underlying13 rfl sz12 (by decide)
theorem fi13_1 {st : PS} {x : Operand} {K : PV → Prop} : fieldK Tryd.prog st 13 x 1 K = bindO (st.ev x) (fieldP Tryd.prog 12 1 K) :=
  field_ (P := Tryd.prog) (st := st) (x := x) (K := K) (f := 1) Tryd.underlying13 rfl
theorem bld13 {st : PS} {l : List (Nat × Operand)} {K : PV → Prop} : buildK Tryd.prog st 13 l K = bindO (evParts st l) fun ps => (ps.all fun e => match e.2 with | .tup _ => false | _ => true) = true ∧ bindO (fillP (fun i => [(0, 1), (1, 1)][i]?) [.val (.string ByteArray.empty), .val (.int .u64 0)] ps) fun cs => K (.agg cs) :=
  buildC Tryd.underlying13 z13 (by kernel_rfl) rfl rfl
-- 20: interface {}
theorem rdo20 {cs : List PV} {off : Nat} : readCells Tryd.prog 20 cs off = cs[off]? := rd_one ag20
theorem alc20 {dr : Bool} {st : PS} {id tk : Nat} {K : PS → Prop} {d : Option Tmp} {ty : TypeId} {pos : String} {af : Array Edge} {g : Option (Nat × Bool)} : stepN dr Tryd.prog ⟨d, .alloc 20, ty, pos, af, g⟩ st id tk K = K (PS.put { st with heap := (id, .box 20 [.val (.nilIface)]) :: st.heap } d (.ptr id 0)) := s_allocC z20 rfl rfl
theorem ifx20 : (∃ ms, Tryd.prog.underlying 20 = some (.interface ms)) = True := eq_true ⟨_, Tryd.underlying20⟩
-- 21: int32
theorem rdo21 {cs : List PV} {off : Nat} : readCells Tryd.prog 21 cs off = cs[off]? := rd_one ag21
theorem alc21 {dr : Bool} {st : PS} {id tk : Nat} {K : PS → Prop} {d : Option Tmp} {ty : TypeId} {pos : String} {af : Array Edge} {g : Option (Nat × Bool)} : stepN dr Tryd.prog ⟨d, .alloc 21, ty, pos, af, g⟩ st id tk K = K (PS.put { st with heap := (id, .box 21 [.val (.int .i32 0)]) :: st.heap } d (.ptr id 0)) := s_allocC z21 rfl rfl
theorem mki21 {dr : Bool} {st : PS} {id tk : Nat} {K : PS → Prop} {d : Option Tmp} {ty : TypeId} {pos : String} {af : Array Edge} {g : Option (Nat × Bool)} {x : Operand} : stepN dr Tryd.prog ⟨d, .makeInterface 21 x, ty, pos, af, g⟩ st id tk K = bindO (st.ev x) fun p => K (st.put d (.iface 21 p)) := s_makeIface Tryd.underlying21 rfl
-- 22: func() bool
theorem rdo22 {cs : List PV} {off : Nat} : readCells Tryd.prog 22 cs off = cs[off]? := rd_one ag22
-- 23: api.Errno
theorem rdo23 {cs : List PV} {off : Nat} : readCells Tryd.prog 23 cs off = cs[off]? := rd_one ag23
theorem alc23 {dr : Bool} {st : PS} {id tk : Nat} {K : PS → Prop} {d : Option Tmp} {ty : TypeId} {pos : String} {af : Array Edge} {g : Option (Nat × Bool)} : stepN dr Tryd.prog ⟨d, .alloc 23, ty, pos, af, g⟩ st id tk K = K (PS.put { st with heap := (id, .box 23 [.val (.int .i64 0)]) :: st.heap } d (.ptr id 0)) := s_allocC z23 rfl rfl
theorem mki23 {dr : Bool} {st : PS} {id tk : Nat} {K : PS → Prop} {d : Option Tmp} {ty : TypeId} {pos : String} {af : Array Edge} {g : Option (Nat × Bool)} {x : Operand} : stepN dr Tryd.prog ⟨d, .makeInterface 23 x, ty, pos, af, g⟩ st id tk K = bindO (st.ev x) fun p => K (st.put d (.iface 23 p)) := s_makeIface Tryd.underlying23 rfl
-- 25: func(string) (int64, api.Errno)
theorem rdo25 {cs : List PV} {off : Nat} : readCells Tryd.prog 25 cs off = cs[off]? := rd_one ag25
-- 26: []int
theorem rdo26 {cs : List PV} {off : Nat} : readCells Tryd.prog 26 cs off = cs[off]? := rd_one ag26
theorem alc26 {dr : Bool} {st : PS} {id tk : Nat} {K : PS → Prop} {d : Option Tmp} {ty : TypeId} {pos : String} {af : Array Edge} {g : Option (Nat × Bool)} : stepN dr Tryd.prog ⟨d, .alloc 26, ty, pos, af, g⟩ st id tk K = K (PS.put { st with heap := (id, .box 26 [.val (.slice none 0 0)]) :: st.heap } d (.ptr id 0)) := s_allocC z26 rfl rfl
theorem lns26 {st : PS} {x : Operand} {K : PV → Prop} : lenK Tryd.prog st 26 x K = bindO (st.ev x) (lenP K) := len_slice Tryd.underlying26
theorem ixs26 {st : PS} {x y : Operand} {K : PV → Prop} : indexAddrK Tryd.prog st 26 x y K = bindO (st.ev x) fun p => bindO (st.ev y) fun q => intK q fun i => ixP 1 i K p := ix_slice Tryd.underlying26 sz3
theorem sls26 {st : PS} {x : Operand} {lo hi : Option Operand} {K : PV → Prop} : sliceK Tryd.prog st 26 x lo hi K = bindO (st.ev x) (slcP 1 st lo hi K) := slc_slice Tryd.underlying26 sz3
theorem app26 {st : PS} {tk : Nat} {x y : Operand} {K : Delta → Prop} : appendK Tryd.prog st tk ⟨.builtin .append, #[x, y], #[26, 26]⟩ K = bindO (st.ev x) fun d => bindO (st.ev y) fun s => bindO (srcXs st 1 s) fun ys0 => bindO (fzLL ys0) fun ys => (∀ y ∈ ys, y.length = 1) ∧ appT 3 1 8 st tk K d ys :=
  append_t Tryd.underlying26 sz3 by3 z3 rfl (by decide)
theorem bs26 {dr : Bool} {st : PS} {id tk n : Nat} {K : PS → Prop} {d : Option Tmp} {ty : TypeId} {pos : String} {af : Array Edge} {g : Option (Nat × Bool)} {l : List (Nat × Operand)} :
    stepN dr Tryd.prog ⟨d, .buildSlice 26 n l.toArray, ty, pos, af, g⟩ st id tk K = bindO (evParts st l) fun ps => bindO (valsOf ps 0) fun xs => (∀ x ∈ xs, x.length = 1) ∧ xs.length = n ∧ n * 1 ≤ 16777216 ∧ K (PS.put { st with toks := upd st.toks tk ⟨3, 1, n⟩ } d (.row tk xs)) :=
  s_buildSlice Tryd.underlying26 sz3 z3 (by decide) rfl
theorem mks26 {dr : Bool} {st : PS} {id tk : Nat} {K : PS → Prop} {d : Option Tmp} {ty : TypeId} {pos : String} {af : Array Edge} {g : Option (Nat × Bool)} {l c : Operand} : stepN dr Tryd.prog ⟨d, .makeSlice 26 l c, ty, pos, af, g⟩ st id tk K = bindO (st.ev l) fun p => bindO (st.ev c) fun q => intK p fun n => intK q fun m => n = m ∧ 0 ≤ n ∧ n ≤ 9223372036854775807 ∧ 8 * n ≤ 281474976710656 ∧
    K (PS.put { st with heap := (id, .box 3 ((List.range (n.toNat * 1)).map fun i => [.val (.int .i64 0)].getD (i % 1) (.val .nilIface))) :: st.heap } d (.ms id 0 n.toNat n.toNat)) :=
  s_makeSlice Tryd.underlying26 sz3 by3 z3 rfl rfl (by decide) rfl
-- 27: struct { Below bool; Figures []int }
theorem rda27 {cs : List PV} {off : Nat} : readCells Tryd.prog 27 cs off = if off + 2 ≤ cs.length then some (.agg ((cs.drop off).take 2)) else none := rd_agg ag27 sz27
theorem alc27 {dr : Bool} {st : PS} {id tk : Nat} {K : PS → Prop} {d : Option Tmp} {ty : TypeId} {pos : String} {af : Array Edge} {g : Option (Nat × Bool)} : stepN dr Tryd.prog ⟨d, .alloc 27, ty, pos, af, g⟩ st id tk K = K (PS.put { st with heap := (id, .box 27 [.val (.bool false), .val (.slice none 0 0)]) :: st.heap } d (.ptr id 0)) := s_allocC z27 rfl rfl
theorem mki27 {dr : Bool} {st : PS} {id tk : Nat} {K : PS → Prop} {d : Option Tmp} {ty : TypeId} {pos : String} {af : Array Edge} {g : Option (Nat × Bool)} {x : Operand} : stepN dr Tryd.prog ⟨d, .makeInterface 27 x, ty, pos, af, g⟩ st id tk K = bindO (st.ev x) fun p => K (st.put d (.iface 27 p)) := s_makeIface Tryd.underlying27 rfl
theorem fa27_0 {st : PS} {x : Operand} {K : PV → Prop} : fieldAddrK Tryd.prog st 27 x 0 K = bindO (st.ev x) (fldP 0 K) :=
  fld_ (P := Tryd.prog) (st := st) (x := x) (K := K) (f := 0) Tryd.underlying27 rfl sz4 (by decide)
theorem fi27_0 {st : PS} {x : Operand} {K : PV → Prop} : fieldK Tryd.prog st 27 x 0 K = bindO (st.ev x) (fieldP Tryd.prog 4 0 K) :=
  field_ (P := Tryd.prog) (st := st) (x := x) (K := K) (f := 0) Tryd.underlying27 rfl
theorem fa27_1 {st : PS} {x : Operand} {K : PV → Prop} : fieldAddrK Tryd.prog st 27 x 1 K = bindO (st.ev x) (fldP 1 K) :=
  fld_ (P := Tryd.prog) (st := st) (x := x) (K := K) (f := 1) Tryd.underlying27 rfl sz26 (by decide)
theorem fi27_1 {st : PS} {x : Operand} {K : PV → Prop} : fieldK Tryd.prog st 27 x 1 K = bindO (st.ev x) (fieldP Tryd.prog 26 1 K) :=
  field_ (P := Tryd.prog) (st := st) (x := x) (K := K) (f := 1) Tryd.underlying27 rfl
theorem bld27 {st : PS} {l : List (Nat × Operand)} {K : PV → Prop} : buildK Tryd.prog st 27 l K = bindO (evParts st l) fun ps => (ps.all fun e => match e.2 with | .tup _ => false | _ => true) = true ∧ bindO (fillP (fun i => [(0, 1), (1, 1)][i]?) [.val (.bool false), .val (.slice none 0 0)] ps) fun cs => K (.agg cs) :=
  buildC Tryd.underlying27 z27 (by kernel_rfl) rfl rfl
-- 28: chevalref02.N
theorem rda28 {cs : List PV} {off : Nat} : readCells Tryd.prog 28 cs off = if off + 2 ≤ cs.length then some (.agg ((cs.drop off).take 2)) else none := rd_agg ag28 sz28
theorem alc28 {dr : Bool} {st : PS} {id tk : Nat} {K : PS → Prop} {d : Option Tmp} {ty : TypeId} {pos : String} {af : Array Edge} {g : Option (Nat × Bool)} : stepN dr Tryd.prog ⟨d, .alloc 28, ty, pos, af, g⟩ st id tk K = K (PS.put { st with heap := (id, .box 28 [.val (.bool false), .val (.slice none 0 0)]) :: st.heap } d (.ptr id 0)) := s_allocC z28 rfl rfl
theorem mki28 {dr : Bool} {st : PS} {id tk : Nat} {K : PS → Prop} {d : Option Tmp} {ty : TypeId} {pos : String} {af : Array Edge} {g : Option (Nat × Bool)} {x : Operand} : stepN dr Tryd.prog ⟨d, .makeInterface 28 x, ty, pos, af, g⟩ st id tk K = bindO (st.ev x) fun p => K (st.put d (.iface 28 p)) := s_makeIface Tryd.underlying28 rfl
theorem fa28_0 {st : PS} {x : Operand} {K : PV → Prop} : fieldAddrK Tryd.prog st 28 x 0 K = bindO (st.ev x) (fldP 0 K) :=
  fld_ (P := Tryd.prog) (st := st) (x := x) (K := K) (f := 0) Tryd.underlying28 rfl sz4 (by decide)
theorem fi28_0 {st : PS} {x : Operand} {K : PV → Prop} : fieldK Tryd.prog st 28 x 0 K = bindO (st.ev x) (fieldP Tryd.prog 4 0 K) :=
  field_ (P := Tryd.prog) (st := st) (x := x) (K := K) (f := 0) Tryd.underlying28 rfl
theorem fa28_1 {st : PS} {x : Operand} {K : PV → Prop} : fieldAddrK Tryd.prog st 28 x 1 K = bindO (st.ev x) (fldP 1 K) :=
  fld_ (P := Tryd.prog) (st := st) (x := x) (K := K) (f := 1) Tryd.underlying28 rfl sz26 (by decide)
theorem fi28_1 {st : PS} {x : Operand} {K : PV → Prop} : fieldK Tryd.prog st 28 x 1 K = bindO (st.ev x) (fieldP Tryd.prog 26 1 K) :=
  field_ (P := Tryd.prog) (st := st) (x := x) (K := K) (f := 1) Tryd.underlying28 rfl
theorem bld28 {st : PS} {l : List (Nat × Operand)} {K : PV → Prop} : buildK Tryd.prog st 28 l K = bindO (evParts st l) fun ps => (ps.all fun e => match e.2 with | .tup _ => false | _ => true) = true ∧ bindO (fillP (fun i => [(0, 1), (1, 1)][i]?) [.val (.bool false), .val (.slice none 0 0)] ps) fun cs => K (.agg cs) :=
  buildC Tryd.underlying28 z28 (by kernel_rfl) rfl rfl
-- 30: func(string) (chevalref02.N, int)
theorem rdo30 {cs : List PV} {off : Nat} : readCells Tryd.prog 30 cs off = cs[off]? := rd_one ag30
-- 31: func(chevalref02.N) int64
theorem rdo31 {cs : List PV} {off : Nat} : readCells Tryd.prog 31 cs off = cs[off]? := rd_one ag31
-- 32: func(string) bool
theorem rdo32 {cs : List PV} {off : Nat} : readCells Tryd.prog 32 cs off = cs[off]? := rd_one ag32
-- 33: func(int64) string
theorem rdo33 {cs : List PV} {off : Nat} : readCells Tryd.prog 33 cs off = cs[off]? := rd_one ag33
-- 34: func(chevalref02.N) string
theorem rdo34 {cs : List PV} {off : Nat} : readCells Tryd.prog 34 cs off = cs[off]? := rd_one ag34
-- 35: func(int64) chevalref02.N
theorem rdo35 {cs : List PV} {off : Nat} : readCells Tryd.prog 35 cs off = cs[off]? := rd_one ag35
-- 36: func(int64) bool
theorem rdo36 {cs : List PV} {off : Nat} : readCells Tryd.prog 36 cs off = cs[off]? := rd_one ag36
-- 37: func(int64, int64) (int64, api.Errno)
theorem rdo37 {cs : List PV} {off : Nat} : readCells Tryd.prog 37 cs off = cs[off]? := rd_one ag37
-- 38: Error
theorem rdo38 {cs : List PV} {off : Nat} : readCells Tryd.prog 38 cs off = cs[off]? := rd_one ag38
theorem alc38 {dr : Bool} {st : PS} {id tk : Nat} {K : PS → Prop} {d : Option Tmp} {ty : TypeId} {pos : String} {af : Array Edge} {g : Option (Nat × Bool)} : stepN dr Tryd.prog ⟨d, .alloc 38, ty, pos, af, g⟩ st id tk K = K (PS.put { st with heap := (id, .box 38 [.val (.nilIface)]) :: st.heap } d (.ptr id 0)) := s_allocC z38 rfl rfl
theorem ifx38 : (∃ ms, Tryd.prog.underlying 38 = some (.interface ms)) = True := eq_true ⟨_, Tryd.underlying38⟩
-- 39: error
theorem rdo39 {cs : List PV} {off : Nat} : readCells Tryd.prog 39 cs off = cs[off]? := rd_one ag39
theorem alc39 {dr : Bool} {st : PS} {id tk : Nat} {K : PS → Prop} {d : Option Tmp} {ty : TypeId} {pos : String} {af : Array Edge} {g : Option (Nat × Bool)} : stepN dr Tryd.prog ⟨d, .alloc 39, ty, pos, af, g⟩ st id tk K = K (PS.put { st with heap := (id, .box 39 [.val (.nilIface)]) :: st.heap } d (.ptr id 0)) := s_allocC z39 rfl rfl
theorem ifx39 : (∃ ms, Tryd.prog.underlying 39 = some (.interface ms)) = True := eq_true ⟨_, Tryd.underlying39⟩
-- 41: func(string, int, int) (int64, error)
theorem rdo41 {cs : List PV} {off : Nat} : readCells Tryd.prog 41 cs off = cs[off]? := rd_one ag41
-- 42: func(chevalref02.N) chevalref02.N
theorem rdo42 {cs : List PV} {off : Nat} : readCells Tryd.prog 42 cs off = cs[off]? := rd_one ag42
-- 43: func(string) chevalref02.N
theorem rdo43 {cs : List PV} {off : Nat} : readCells Tryd.prog 43 cs off = cs[off]? := rd_one ag43
-- 44: func(chevalref02.N) bool
theorem rdo44 {cs : List PV} {off : Nat} : readCells Tryd.prog 44 cs off = cs[off]? := rd_one ag44
-- 45: func(int64, int) string
theorem rdo45 {cs : List PV} {off : Nat} : readCells Tryd.prog 45 cs off = cs[off]? := rd_one ag45
-- 46: func(int64) (int64, api.Errno)
theorem rdo46 {cs : List PV} {off : Nat} : readCells Tryd.prog 46 cs off = cs[off]? := rd_one ag46
-- 47: func(string, string) string
theorem rdo47 {cs : List PV} {off : Nat} : readCells Tryd.prog 47 cs off = cs[off]? := rd_one ag47
-- 48: func(string, string, int, int, error) error
theorem rdo48 {cs : List PV} {off : Nat} : readCells Tryd.prog 48 cs off = cs[off]? := rd_one ag48
-- 49: func(chevalref02.N, chevalref02.N) chevalref02.N
theorem rdo49 {cs : List PV} {off : Nat} : readCells Tryd.prog 49 cs off = cs[off]? := rd_one ag49
-- 50: func(chevalref02.N, chevalref02.N) bool
theorem rdo50 {cs : List PV} {off : Nat} : readCells Tryd.prog 50 cs off = cs[off]? := rd_one ag50
-- 51: strconv.Error
theorem rdo51 {cs : List PV} {off : Nat} : readCells Tryd.prog 51 cs off = cs[off]? := rd_one ag51
theorem alc51 {dr : Bool} {st : PS} {id tk : Nat} {K : PS → Prop} {d : Option Tmp} {ty : TypeId} {pos : String} {af : Array Edge} {g : Option (Nat × Bool)} : stepN dr Tryd.prog ⟨d, .alloc 51, ty, pos, af, g⟩ st id tk K = K (PS.put { st with heap := (id, .box 51 [.val (.int .i64 0)]) :: st.heap } d (.ptr id 0)) := s_allocC z51 rfl rfl
theorem mki51 {dr : Bool} {st : PS} {id tk : Nat} {K : PS → Prop} {d : Option Tmp} {ty : TypeId} {pos : String} {af : Array Edge} {g : Option (Nat × Bool)} {x : Operand} : stepN dr Tryd.prog ⟨d, .makeInterface 51 x, ty, pos, af, g⟩ st id tk K = bindO (st.ev x) fun p => K (st.put d (.iface 51 p)) := s_makeIface Tryd.underlying51 rfl
-- 52: uint64
theorem rdo52 {cs : List PV} {off : Nat} : readCells Tryd.prog 52 cs off = cs[off]? := rd_one ag52
theorem alc52 {dr : Bool} {st : PS} {id tk : Nat} {K : PS → Prop} {d : Option Tmp} {ty : TypeId} {pos : String} {af : Array Edge} {g : Option (Nat × Bool)} : stepN dr Tryd.prog ⟨d, .alloc 52, ty, pos, af, g⟩ st id tk K = K (PS.put { st with heap := (id, .box 52 [.val (.int .u64 0)]) :: st.heap } d (.ptr id 0)) := s_allocC z52 rfl rfl
theorem mki52 {dr : Bool} {st : PS} {id tk : Nat} {K : PS → Prop} {d : Option Tmp} {ty : TypeId} {pos : String} {af : Array Edge} {g : Option (Nat × Bool)} {x : Operand} : stepN dr Tryd.prog ⟨d, .makeInterface 52 x, ty, pos, af, g⟩ st id tk K = bindO (st.ev x) fun p => K (st.put d (.iface 52 p)) := s_makeIface Tryd.underlying52 rfl
-- 54: func(string, int, int) (uint64, error)
theorem rdo54 {cs : List PV} {off : Nat} : readCells Tryd.prog 54 cs off = cs[off]? := rd_one ag54
-- 55: uint
theorem rdo55 {cs : List PV} {off : Nat} : readCells Tryd.prog 55 cs off = cs[off]? := rd_one ag55
theorem alc55 {dr : Bool} {st : PS} {id tk : Nat} {K : PS → Prop} {d : Option Tmp} {ty : TypeId} {pos : String} {af : Array Edge} {g : Option (Nat × Bool)} : stepN dr Tryd.prog ⟨d, .alloc 55, ty, pos, af, g⟩ st id tk K = K (PS.put { st with heap := (id, .box 55 [.val (.int .u64 0)]) :: st.heap } d (.ptr id 0)) := s_allocC z55 rfl rfl
theorem mki55 {dr : Bool} {st : PS} {id tk : Nat} {K : PS → Prop} {d : Option Tmp} {ty : TypeId} {pos : String} {af : Array Edge} {g : Option (Nat × Bool)} {x : Operand} : stepN dr Tryd.prog ⟨d, .makeInterface 55 x, ty, pos, af, g⟩ st id tk K = bindO (st.ev x) fun p => K (st.put d (.iface 55 p)) := s_makeIface Tryd.underlying55 rfl
-- 56: *strconv.NumError
theorem rdo56 {cs : List PV} {off : Nat} : readCells Tryd.prog 56 cs off = cs[off]? := rd_one ag56
theorem alc56 {dr : Bool} {st : PS} {id tk : Nat} {K : PS → Prop} {d : Option Tmp} {ty : TypeId} {pos : String} {af : Array Edge} {g : Option (Nat × Bool)} : stepN dr Tryd.prog ⟨d, .alloc 56, ty, pos, af, g⟩ st id tk K = K (PS.put { st with heap := (id, .box 56 [.val (.pointer none)]) :: st.heap } d (.ptr id 0)) := s_allocC z56 rfl rfl
theorem mki56 {dr : Bool} {st : PS} {id tk : Nat} {K : PS → Prop} {d : Option Tmp} {ty : TypeId} {pos : String} {af : Array Edge} {g : Option (Nat × Bool)} {x : Operand} : stepN dr Tryd.prog ⟨d, .makeInterface 56 x, ty, pos, af, g⟩ st id tk K = bindO (st.ev x) fun p => K (st.put d (.iface 56 p)) := s_makeIface Tryd.underlying56 rfl
-- 57: func(string, string) *strconv.NumError
theorem rdo57 {cs : List PV} {off : Nat} : readCells Tryd.prog 57 cs off = cs[off]? := rd_one ag57
-- 58: func(string, string, int) *strconv.NumError
theorem rdo58 {cs : List PV} {off : Nat} : readCells Tryd.prog 58 cs off = cs[off]? := rd_one ag58
-- 59: func([]int, []int, int) []int
theorem rdo59 {cs : List PV} {off : Nat} : readCells Tryd.prog 59 cs off = cs[off]? := rd_one ag59
-- 60: func([]int, []int) bool
theorem rdo60 {cs : List PV} {off : Nat} : readCells Tryd.prog 60 cs off = cs[off]? := rd_one ag60
-- 61: func(int) string
theorem rdo61 {cs : List PV} {off : Nat} : readCells Tryd.prog 61 cs off = cs[off]? := rd_one ag61
-- 62: [24]uint8
theorem rda62 {cs : List PV} {off : Nat} : readCells Tryd.prog 62 cs off = if off + 24 ≤ cs.length then some (.agg ((cs.drop off).take 24)) else none := rd_agg ag62 sz62
theorem alc62 {dr : Bool} {st : PS} {id tk : Nat} {K : PS → Prop} {d : Option Tmp} {ty : TypeId} {pos : String} {af : Array Edge} {g : Option (Nat × Bool)} : stepN dr Tryd.prog ⟨d, .alloc 62, ty, pos, af, g⟩ st id tk K = K (PS.put { st with heap := (id, .box 62 [.val (.int .u8 0), .val (.int .u8 0), .val (.int .u8 0), .val (.int .u8 0), .val (.int .u8 0), .val (.int .u8 0), .val (.int .u8 0), .val (.int .u8 0), .val (.int .u8 0), .val (.int .u8 0), .val (.int .u8 0), .val (.int .u8 0), .val (.int .u8 0), .val (.int .u8 0), .val (.int .u8 0), .val (.int .u8 0), .val (.int .u8 0), .val (.int .u8 0), .val (.int .u8 0), .val (.int .u8 0), .val (.int .u8 0), .val (.int .u8 0), .val (.int .u8 0), .val (.int .u8 0)]) :: st.heap } d (.ptr id 0)) := s_allocC z62 rfl rfl
theorem lns62 {st : PS} {x : Operand} {K : PV → Prop} : lenK Tryd.prog st 62 x K = K (.val (.int .i64 (24 : Nat))) := len_array Tryd.underlying62
theorem ixs62 {st : PS} {x y : Operand} {K : PV → Prop} : indexAddrK Tryd.prog st 62 x y K = bindO (st.ev x) fun p => bindO (st.ev y) fun q => intK q fun i => ixA 1 24 i K p := ix_array Tryd.underlying62 sz5
theorem bld62 {st : PS} {l : List (Nat × Operand)} {K : PV → Prop} : buildK Tryd.prog st 62 l K = bindO (evParts st l) fun ps => (ps.all fun e => match e.2 with | .tup _ => false | _ => true) = true ∧ bindO (fillP (fun i => some (i * 1, 1)) [.val (.int .u8 0), .val (.int .u8 0), .val (.int .u8 0), .val (.int .u8 0), .val (.int .u8 0), .val (.int .u8 0), .val (.int .u8 0), .val (.int .u8 0), .val (.int .u8 0), .val (.int .u8 0), .val (.int .u8 0), .val (.int .u8 0), .val (.int .u8 0), .val (.int .u8 0), .val (.int .u8 0), .val (.int .u8 0), .val (.int .u8 0), .val (.int .u8 0), .val (.int .u8 0), .val (.int .u8 0), .val (.int .u8 0), .val (.int .u8 0), .val (.int .u8 0), .val (.int .u8 0)] ps) fun cs => K (.agg cs) :=
  buildA Tryd.underlying62 z62 sz5 rfl rfl
-- 63: func(uint64) int
theorem rdo63 {cs : List PV} {off : Nat} : readCells Tryd.prog 63 cs off = cs[off]? := rd_one ag63
-- 64: func([]uint8, uint64)
theorem rdo64 {cs : List PV} {off : Nat} : readCells Tryd.prog 64 cs off = cs[off]? := rd_one ag64
-- 65: []uint8
theorem rdo65 {cs : List PV} {off : Nat} : readCells Tryd.prog 65 cs off = cs[off]? := rd_one ag65
theorem alc65 {dr : Bool} {st : PS} {id tk : Nat} {K : PS → Prop} {d : Option Tmp} {ty : TypeId} {pos : String} {af : Array Edge} {g : Option (Nat × Bool)} : stepN dr Tryd.prog ⟨d, .alloc 65, ty, pos, af, g⟩ st id tk K = K (PS.put { st with heap := (id, .box 65 [.val (.slice none 0 0)]) :: st.heap } d (.ptr id 0)) := s_allocC z65 rfl rfl
theorem lns65 {st : PS} {x : Operand} {K : PV → Prop} : lenK Tryd.prog st 65 x K = bindO (st.ev x) (lenP K) := len_slice Tryd.underlying65
theorem ixs65 {st : PS} {x y : Operand} {K : PV → Prop} : indexAddrK Tryd.prog st 65 x y K = bindO (st.ev x) fun p => bindO (st.ev y) fun q => intK q fun i => ixP 1 i K p := ix_slice Tryd.underlying65 sz5
theorem sls65 {st : PS} {x : Operand} {lo hi : Option Operand} {K : PV → Prop} : sliceK Tryd.prog st 65 x lo hi K = bindO (st.ev x) (slcP 1 st lo hi K) := slc_slice Tryd.underlying65 sz5
theorem app65 {st : PS} {tk : Nat} {x y : Operand} {K : Delta → Prop} : appendK Tryd.prog st tk ⟨.builtin .append, #[x, y], #[65, 65]⟩ K = bindO (st.ev x) fun d => bindO (st.ev y) fun s => bindO (srcXs st 1 s) fun ys0 => bindO (fzLL ys0) fun ys => (∀ y ∈ ys, y.length = 1) ∧ appT 5 1 1 st tk K d ys :=
  append_t Tryd.underlying65 sz5 by5 z5 rfl (by decide)
theorem bs65 {dr : Bool} {st : PS} {id tk n : Nat} {K : PS → Prop} {d : Option Tmp} {ty : TypeId} {pos : String} {af : Array Edge} {g : Option (Nat × Bool)} {l : List (Nat × Operand)} :
    stepN dr Tryd.prog ⟨d, .buildSlice 65 n l.toArray, ty, pos, af, g⟩ st id tk K = bindO (evParts st l) fun ps => bindO (valsOf ps 0) fun xs => (∀ x ∈ xs, x.length = 1) ∧ xs.length = n ∧ n * 1 ≤ 16777216 ∧ K (PS.put { st with toks := upd st.toks tk ⟨5, 1, n⟩ } d (.row tk xs)) :=
  s_buildSlice Tryd.underlying65 sz5 z5 (by decide) rfl
theorem isb65 : isBytes Tryd.prog 65 = True := eq_true ⟨5, Tryd.underlying65, Tryd.underlying5⟩
theorem aps65 {st : PS} {tk : Nat} {x y : Operand} {K : Delta → Prop} : appendK Tryd.prog st tk ⟨.builtin .append, #[x, y], #[65, 9]⟩ K = bindO (st.ev x) fun d => bindO (st.ev y) fun s => appS 5 1 st tk K d s :=
  append_s Tryd.underlying65 Tryd.underlying9 sz5 by5 z5
theorem cvr65 {k : Nat} {xs : List Int} {K : PV → Prop} : convK Tryd.prog 65 9 (rowC k xs) K = K (.val (.string (strOfNums xs))) := conv_rowC (by rw [Tryd.underlying65]; rfl) ⟨5, Tryd.underlying65, Tryd.underlying5⟩ Tryd.underlying9
theorem mks65 {dr : Bool} {st : PS} {id tk : Nat} {K : PS → Prop} {d : Option Tmp} {ty : TypeId} {pos : String} {af : Array Edge} {g : Option (Nat × Bool)} {l c : Operand} : stepN dr Tryd.prog ⟨d, .makeSlice 65 l c, ty, pos, af, g⟩ st id tk K = bindO (st.ev l) fun p => bindO (st.ev c) fun q => intK p fun n => intK q fun m => n = m ∧ 0 ≤ n ∧ n ≤ 9223372036854775807 ∧ 1 * n ≤ 281474976710656 ∧
    K (PS.put { st with heap := (id, .box 5 ((List.range (n.toNat * 1)).map fun i => [.val (.int .u8 0)].getD (i % 1) (.val .nilIface))) :: st.heap } d (.ms id 0 n.toNat n.toNat)) :=
  s_makeSlice Tryd.underlying65 sz5 by5 z5 rfl rfl (by decide) rfl
-- 67: func([]uint8, uint64, int, bool, bool) ([]uint8, string)
theorem rdo67 {cs : List PV} {off : Nat} : readCells Tryd.prog 67 cs off = cs[off]? := rd_one ag67
-- 68: func(int64, bool) (int64, api.Errno)
theorem rdo68 {cs : List PV} {off : Nat} : readCells Tryd.prog 68 cs off = cs[off]? := rd_one ag68
-- 69: func(string, string) bool
theorem rdo69 {cs : List PV} {off : Nat} : readCells Tryd.prog 69 cs off = cs[off]? := rd_one ag69
-- 70: func(uint8) uint8
theorem rdo70 {cs : List PV} {off : Nat} : readCells Tryd.prog 70 cs off = cs[off]? := rd_one ag70
-- 71: func(string) string
theorem rdo71 {cs : List PV} {off : Nat} : readCells Tryd.prog 71 cs off = cs[off]? := rd_one ag71
-- 72: struct { Func string; Num string; Err error }
theorem rda72 {cs : List PV} {off : Nat} : readCells Tryd.prog 72 cs off = if off + 3 ≤ cs.length then some (.agg ((cs.drop off).take 3)) else none := rd_agg ag72 sz72
theorem alc72 {dr : Bool} {st : PS} {id tk : Nat} {K : PS → Prop} {d : Option Tmp} {ty : TypeId} {pos : String} {af : Array Edge} {g : Option (Nat × Bool)} : stepN dr Tryd.prog ⟨d, .alloc 72, ty, pos, af, g⟩ st id tk K = K (PS.put { st with heap := (id, .box 72 [.val (.string ByteArray.empty), .val (.string ByteArray.empty), .val (.nilIface)]) :: st.heap } d (.ptr id 0)) := s_allocC z72 rfl rfl
theorem mki72 {dr : Bool} {st : PS} {id tk : Nat} {K : PS → Prop} {d : Option Tmp} {ty : TypeId} {pos : String} {af : Array Edge} {g : Option (Nat × Bool)} {x : Operand} : stepN dr Tryd.prog ⟨d, .makeInterface 72 x, ty, pos, af, g⟩ st id tk K = bindO (st.ev x) fun p => K (st.put d (.iface 72 p)) := s_makeIface Tryd.underlying72 rfl
theorem fa72_0 {st : PS} {x : Operand} {K : PV → Prop} : fieldAddrK Tryd.prog st 72 x 0 K = bindO (st.ev x) (fldP 0 K) :=
  fld_ (P := Tryd.prog) (st := st) (x := x) (K := K) (f := 0) Tryd.underlying72 rfl sz9 (by decide)
theorem fi72_0 {st : PS} {x : Operand} {K : PV → Prop} : fieldK Tryd.prog st 72 x 0 K = bindO (st.ev x) (fieldP Tryd.prog 9 0 K) :=
  field_ (P := Tryd.prog) (st := st) (x := x) (K := K) (f := 0) Tryd.underlying72 rfl
theorem fa72_1 {st : PS} {x : Operand} {K : PV → Prop} : fieldAddrK Tryd.prog st 72 x 1 K = bindO (st.ev x) (fldP 1 K) :=
  fld_ (P := Tryd.prog) (st := st) (x := x) (K := K) (f := 1) Tryd.underlying72 rfl sz9 (by decide)
theorem fi72_1 {st : PS} {x : Operand} {K : PV → Prop} : fieldK Tryd.prog st 72 x 1 K = bindO (st.ev x) (fieldP Tryd.prog 9 1 K) :=
  field_ (P := Tryd.prog) (st := st) (x := x) (K := K) (f := 1) Tryd.underlying72 rfl
theorem fa72_2 {st : PS} {x : Operand} {K : PV → Prop} : fieldAddrK Tryd.prog st 72 x 2 K = bindO (st.ev x) (fldP 2 K) :=
  fld_ (P := Tryd.prog) (st := st) (x := x) (K := K) (f := 2) Tryd.underlying72 rfl sz39 (by decide)
theorem fi72_2 {st : PS} {x : Operand} {K : PV → Prop} : fieldK Tryd.prog st 72 x 2 K = bindO (st.ev x) (fieldP Tryd.prog 39 2 K) :=
  field_ (P := Tryd.prog) (st := st) (x := x) (K := K) (f := 2) Tryd.underlying72 rfl
theorem bld72 {st : PS} {l : List (Nat × Operand)} {K : PV → Prop} : buildK Tryd.prog st 72 l K = bindO (evParts st l) fun ps => (ps.all fun e => match e.2 with | .tup _ => false | _ => true) = true ∧ bindO (fillP (fun i => [(0, 1), (1, 1), (2, 1)][i]?) [.val (.string ByteArray.empty), .val (.string ByteArray.empty), .val (.nilIface)] ps) fun cs => K (.agg cs) :=
  buildC Tryd.underlying72 z72 (by kernel_rfl) rfl rfl
-- 73: strconv.NumError
theorem rda73 {cs : List PV} {off : Nat} : readCells Tryd.prog 73 cs off = if off + 3 ≤ cs.length then some (.agg ((cs.drop off).take 3)) else none := rd_agg ag73 sz73
theorem alc73 {dr : Bool} {st : PS} {id tk : Nat} {K : PS → Prop} {d : Option Tmp} {ty : TypeId} {pos : String} {af : Array Edge} {g : Option (Nat × Bool)} : stepN dr Tryd.prog ⟨d, .alloc 73, ty, pos, af, g⟩ st id tk K = K (PS.put { st with heap := (id, .box 73 [.val (.string ByteArray.empty), .val (.string ByteArray.empty), .val (.nilIface)]) :: st.heap } d (.ptr id 0)) := s_allocC z73 rfl rfl
theorem mki73 {dr : Bool} {st : PS} {id tk : Nat} {K : PS → Prop} {d : Option Tmp} {ty : TypeId} {pos : String} {af : Array Edge} {g : Option (Nat × Bool)} {x : Operand} : stepN dr Tryd.prog ⟨d, .makeInterface 73 x, ty, pos, af, g⟩ st id tk K = bindO (st.ev x) fun p => K (st.put d (.iface 73 p)) := s_makeIface Tryd.underlying73 rfl
theorem fa73_0 {st : PS} {x : Operand} {K : PV → Prop} : fieldAddrK Tryd.prog st 73 x 0 K = bindO (st.ev x) (fldP 0 K) :=
  fld_ (P := Tryd.prog) (st := st) (x := x) (K := K) (f := 0) Tryd.underlying73 rfl sz9 (by decide)
theorem fi73_0 {st : PS} {x : Operand} {K : PV → Prop} : fieldK Tryd.prog st 73 x 0 K = bindO (st.ev x) (fieldP Tryd.prog 9 0 K) :=
  field_ (P := Tryd.prog) (st := st) (x := x) (K := K) (f := 0) Tryd.underlying73 rfl
theorem fa73_1 {st : PS} {x : Operand} {K : PV → Prop} : fieldAddrK Tryd.prog st 73 x 1 K = bindO (st.ev x) (fldP 1 K) :=
  fld_ (P := Tryd.prog) (st := st) (x := x) (K := K) (f := 1) Tryd.underlying73 rfl sz9 (by decide)
theorem fi73_1 {st : PS} {x : Operand} {K : PV → Prop} : fieldK Tryd.prog st 73 x 1 K = bindO (st.ev x) (fieldP Tryd.prog 9 1 K) :=
  field_ (P := Tryd.prog) (st := st) (x := x) (K := K) (f := 1) Tryd.underlying73 rfl
theorem fa73_2 {st : PS} {x : Operand} {K : PV → Prop} : fieldAddrK Tryd.prog st 73 x 2 K = bindO (st.ev x) (fldP 2 K) :=
  fld_ (P := Tryd.prog) (st := st) (x := x) (K := K) (f := 2) Tryd.underlying73 rfl sz39 (by decide)
theorem fi73_2 {st : PS} {x : Operand} {K : PV → Prop} : fieldK Tryd.prog st 73 x 2 K = bindO (st.ev x) (fieldP Tryd.prog 39 2 K) :=
  field_ (P := Tryd.prog) (st := st) (x := x) (K := K) (f := 2) Tryd.underlying73 rfl
theorem bld73 {st : PS} {l : List (Nat × Operand)} {K : PV → Prop} : buildK Tryd.prog st 73 l K = bindO (evParts st l) fun ps => (ps.all fun e => match e.2 with | .tup _ => false | _ => true) = true ∧ bindO (fillP (fun i => [(0, 1), (1, 1), (2, 1)][i]?) [.val (.string ByteArray.empty), .val (.string ByteArray.empty), .val (.nilIface)] ps) fun cs => K (.agg cs) :=
  buildC Tryd.underlying73 z73 (by kernel_rfl) rfl rfl
-- 74: func(string) error
theorem rdo74 {cs : List PV} {off : Nat} : readCells Tryd.prog 74 cs off = cs[off]? := rd_one ag74
-- 75: func(int) int
theorem rdo75 {cs : List PV} {off : Nat} : readCells Tryd.prog 75 cs off = cs[off]? := rd_one ag75
-- 76: func(bool) int
theorem rdo76 {cs : List PV} {off : Nat} : readCells Tryd.prog 76 cs off = cs[off]? := rd_one ag76
-- 77: [20]uint64
theorem rda77 {cs : List PV} {off : Nat} : readCells Tryd.prog 77 cs off = if off + 20 ≤ cs.length then some (.agg ((cs.drop off).take 20)) else none := rd_agg ag77 sz77
theorem alc77 {dr : Bool} {st : PS} {id tk : Nat} {K : PS → Prop} {d : Option Tmp} {ty : TypeId} {pos : String} {af : Array Edge} {g : Option (Nat × Bool)} : stepN dr Tryd.prog ⟨d, .alloc 77, ty, pos, af, g⟩ st id tk K = K (PS.put { st with heap := (id, .box 77 [.val (.int .u64 0), .val (.int .u64 0), .val (.int .u64 0), .val (.int .u64 0), .val (.int .u64 0), .val (.int .u64 0), .val (.int .u64 0), .val (.int .u64 0), .val (.int .u64 0), .val (.int .u64 0), .val (.int .u64 0), .val (.int .u64 0), .val (.int .u64 0), .val (.int .u64 0), .val (.int .u64 0), .val (.int .u64 0), .val (.int .u64 0), .val (.int .u64 0), .val (.int .u64 0), .val (.int .u64 0)]) :: st.heap } d (.ptr id 0)) := s_allocC z77 rfl rfl
theorem lns77 {st : PS} {x : Operand} {K : PV → Prop} : lenK Tryd.prog st 77 x K = K (.val (.int .i64 (20 : Nat))) := len_array Tryd.underlying77
theorem ixs77 {st : PS} {x y : Operand} {K : PV → Prop} : indexAddrK Tryd.prog st 77 x y K = bindO (st.ev x) fun p => bindO (st.ev y) fun q => intK q fun i => ixA 1 20 i K p := ix_array Tryd.underlying77 sz52
theorem bld77 {st : PS} {l : List (Nat × Operand)} {K : PV → Prop} : buildK Tryd.prog st 77 l K = bindO (evParts st l) fun ps => (ps.all fun e => match e.2 with | .tup _ => false | _ => true) = true ∧ bindO (fillP (fun i => some (i * 1, 1)) [.val (.int .u64 0), .val (.int .u64 0), .val (.int .u64 0), .val (.int .u64 0), .val (.int .u64 0), .val (.int .u64 0), .val (.int .u64 0), .val (.int .u64 0), .val (.int .u64 0), .val (.int .u64 0), .val (.int .u64 0), .val (.int .u64 0), .val (.int .u64 0), .val (.int .u64 0), .val (.int .u64 0), .val (.int .u64 0), .val (.int .u64 0), .val (.int .u64 0), .val (.int .u64 0), .val (.int .u64 0)] ps) fun cs => K (.agg cs) :=
  buildA Tryd.underlying77 z77 sz52 rfl rfl
-- 78: uint32
theorem rdo78 {cs : List PV} {off : Nat} : readCells Tryd.prog 78 cs off = cs[off]? := rd_one ag78
theorem alc78 {dr : Bool} {st : PS} {id tk : Nat} {K : PS → Prop} {d : Option Tmp} {ty : TypeId} {pos : String} {af : Array Edge} {g : Option (Nat × Bool)} : stepN dr Tryd.prog ⟨d, .alloc 78, ty, pos, af, g⟩ st id tk K = K (PS.put { st with heap := (id, .box 78 [.val (.int .u32 0)]) :: st.heap } d (.ptr id 0)) := s_allocC z78 rfl rfl
theorem mki78 {dr : Bool} {st : PS} {id tk : Nat} {K : PS → Prop} {d : Option Tmp} {ty : TypeId} {pos : String} {af : Array Edge} {g : Option (Nat × Bool)} {x : Operand} : stepN dr Tryd.prog ⟨d, .makeInterface 78 x, ty, pos, af, g⟩ st id tk K = bindO (st.ev x) fun p => K (st.put d (.iface 78 p)) := s_makeIface Tryd.underlying78 rfl
-- 80: func(int) bool
theorem rdo80 {cs : List PV} {off : Nat} : readCells Tryd.prog 80 cs off = cs[off]? := rd_one ag80
-- 81: func(uint) int
theorem rdo81 {cs : List PV} {off : Nat} : readCells Tryd.prog 81 cs off = cs[off]? := rd_one ag81
-- 82: *uint8
theorem rdo82 {cs : List PV} {off : Nat} : readCells Tryd.prog 82 cs off = cs[off]? := rd_one ag82
theorem alc82 {dr : Bool} {st : PS} {id tk : Nat} {K : PS → Prop} {d : Option Tmp} {ty : TypeId} {pos : String} {af : Array Edge} {g : Option (Nat × Bool)} : stepN dr Tryd.prog ⟨d, .alloc 82, ty, pos, af, g⟩ st id tk K = K (PS.put { st with heap := (id, .box 82 [.val (.pointer none)]) :: st.heap } d (.ptr id 0)) := s_allocC z82 rfl rfl
theorem mki82 {dr : Bool} {st : PS} {id tk : Nat} {K : PS → Prop} {d : Option Tmp} {ty : TypeId} {pos : String} {af : Array Edge} {g : Option (Nat × Bool)} {x : Operand} : stepN dr Tryd.prog ⟨d, .makeInterface 82 x, ty, pos, af, g⟩ st id tk K = bindO (st.ev x) fun p => K (st.put d (.iface 82 p)) := s_makeIface Tryd.underlying82 rfl
-- 83: *errors.errorString
theorem rdo83 {cs : List PV} {off : Nat} : readCells Tryd.prog 83 cs off = cs[off]? := rd_one ag83
theorem alc83 {dr : Bool} {st : PS} {id tk : Nat} {K : PS → Prop} {d : Option Tmp} {ty : TypeId} {pos : String} {af : Array Edge} {g : Option (Nat × Bool)} : stepN dr Tryd.prog ⟨d, .alloc 83, ty, pos, af, g⟩ st id tk K = K (PS.put { st with heap := (id, .box 83 [.val (.pointer none)]) :: st.heap } d (.ptr id 0)) := s_allocC z83 rfl rfl
theorem mki83 {dr : Bool} {st : PS} {id tk : Nat} {K : PS → Prop} {d : Option Tmp} {ty : TypeId} {pos : String} {af : Array Edge} {g : Option (Nat × Bool)} {x : Operand} : stepN dr Tryd.prog ⟨d, .makeInterface 83 x, ty, pos, af, g⟩ st id tk K = bindO (st.ev x) fun p => K (st.put d (.iface 83 p)) := s_makeIface Tryd.underlying83 rfl
-- 84: struct { s string }
theorem rda84 {cs : List PV} {off : Nat} : readCells Tryd.prog 84 cs off = if off + 1 ≤ cs.length then some (.agg ((cs.drop off).take 1)) else none := rd_agg ag84 sz84
theorem alc84 {dr : Bool} {st : PS} {id tk : Nat} {K : PS → Prop} {d : Option Tmp} {ty : TypeId} {pos : String} {af : Array Edge} {g : Option (Nat × Bool)} : stepN dr Tryd.prog ⟨d, .alloc 84, ty, pos, af, g⟩ st id tk K = K (PS.put { st with heap := (id, .box 84 [.val (.string ByteArray.empty)]) :: st.heap } d (.ptr id 0)) := s_allocC z84 rfl rfl
theorem mki84 {dr : Bool} {st : PS} {id tk : Nat} {K : PS → Prop} {d : Option Tmp} {ty : TypeId} {pos : String} {af : Array Edge} {g : Option (Nat × Bool)} {x : Operand} : stepN dr Tryd.prog ⟨d, .makeInterface 84 x, ty, pos, af, g⟩ st id tk K = bindO (st.ev x) fun p => K (st.put d (.iface 84 p)) := s_makeIface Tryd.underlying84 rfl
theorem fa84_0 {st : PS} {x : Operand} {K : PV → Prop} : fieldAddrK Tryd.prog st 84 x 0 K = bindO (st.ev x) (fldP 0 K) :=
  fld_ (P := Tryd.prog) (st := st) (x := x) (K := K) (f := 0) Tryd.underlying84 rfl sz9 (by decide)
theorem fi84_0 {st : PS} {x : Operand} {K : PV → Prop} : fieldK Tryd.prog st 84 x 0 K = bindO (st.ev x) (fieldP Tryd.prog 9 0 K) :=
  field_ (P := Tryd.prog) (st := st) (x := x) (K := K) (f := 0) Tryd.underlying84 rfl
theorem bld84 {st : PS} {l : List (Nat × Operand)} {K : PV → Prop} : buildK Tryd.prog st 84 l K = bindO (evParts st l) fun ps => (ps.all fun e => match e.2 with | .tup _ => false | _ => true) = true ∧ bindO (fillP (fun i => [(0, 1)][i]?) [.val (.string ByteArray.empty)] ps) fun cs => K (.agg cs) :=
  buildC Tryd.underlying84 z84 (by kernel_rfl) rfl rfl
-- 85: errors.errorString
theorem rda85 {cs : List PV} {off : Nat} : readCells Tryd.prog 85 cs off = if off + 1 ≤ cs.length then some (.agg ((cs.drop off).take 1)) else none := rd_agg ag85 sz85
theorem alc85 {dr : Bool} {st : PS} {id tk : Nat} {K : PS → Prop} {d : Option Tmp} {ty : TypeId} {pos : String} {af : Array Edge} {g : Option (Nat × Bool)} : stepN dr Tryd.prog ⟨d, .alloc 85, ty, pos, af, g⟩ st id tk K = K (PS.put { st with heap := (id, .box 85 [.val (.string ByteArray.empty)]) :: st.heap } d (.ptr id 0)) := s_allocC z85 rfl rfl
theorem mki85 {dr : Bool} {st : PS} {id tk : Nat} {K : PS → Prop} {d : Option Tmp} {ty : TypeId} {pos : String} {af : Array Edge} {g : Option (Nat × Bool)} {x : Operand} : stepN dr Tryd.prog ⟨d, .makeInterface 85 x, ty, pos, af, g⟩ st id tk K = bindO (st.ev x) fun p => K (st.put d (.iface 85 p)) := s_makeIface Tryd.underlying85 rfl
theorem fa85_0 {st : PS} {x : Operand} {K : PV → Prop} : fieldAddrK Tryd.prog st 85 x 0 K = bindO (st.ev x) (fldP 0 K) :=
  fld_ (P := Tryd.prog) (st := st) (x := x) (K := K) (f := 0) Tryd.underlying85 rfl sz9 (by decide)
theorem fi85_0 {st : PS} {x : Operand} {K : PV → Prop} : fieldK Tryd.prog st 85 x 0 K = bindO (st.ev x) (fieldP Tryd.prog 9 0 K) :=
  field_ (P := Tryd.prog) (st := st) (x := x) (K := K) (f := 0) Tryd.underlying85 rfl
theorem bld85 {st : PS} {l : List (Nat × Operand)} {K : PV → Prop} : buildK Tryd.prog st 85 l K = bindO (evParts st l) fun ps => (ps.all fun e => match e.2 with | .tup _ => false | _ => true) = true ∧ bindO (fillP (fun i => [(0, 1)][i]?) [.val (.string ByteArray.empty)] ps) fun cs => K (.agg cs) :=
  buildC Tryd.underlying85 z85 (by kernel_rfl) rfl rfl
-- 86: func(uint32) int
theorem rdo86 {cs : List PV} {off : Nat} : readCells Tryd.prog 86 cs off = cs[off]? := rd_one ag86
-- 87: [32]uint8
theorem rda87 {cs : List PV} {off : Nat} : readCells Tryd.prog 87 cs off = if off + 32 ≤ cs.length then some (.agg ((cs.drop off).take 32)) else none := rd_agg ag87 sz87
theorem alc87 {dr : Bool} {st : PS} {id tk : Nat} {K : PS → Prop} {d : Option Tmp} {ty : TypeId} {pos : String} {af : Array Edge} {g : Option (Nat × Bool)} : stepN dr Tryd.prog ⟨d, .alloc 87, ty, pos, af, g⟩ st id tk K = K (PS.put { st with heap := (id, .box 87 [.val (.int .u8 0), .val (.int .u8 0), .val (.int .u8 0), .val (.int .u8 0), .val (.int .u8 0), .val (.int .u8 0), .val (.int .u8 0), .val (.int .u8 0), .val (.int .u8 0), .val (.int .u8 0), .val (.int .u8 0), .val (.int .u8 0), .val (.int .u8 0), .val (.int .u8 0), .val (.int .u8 0), .val (.int .u8 0), .val (.int .u8 0), .val (.int .u8 0), .val (.int .u8 0), .val (.int .u8 0), .val (.int .u8 0), .val (.int .u8 0), .val (.int .u8 0), .val (.int .u8 0), .val (.int .u8 0), .val (.int .u8 0), .val (.int .u8 0), .val (.int .u8 0), .val (.int .u8 0), .val (.int .u8 0), .val (.int .u8 0), .val (.int .u8 0)]) :: st.heap } d (.ptr id 0)) := s_allocC z87 rfl rfl
theorem lns87 {st : PS} {x : Operand} {K : PV → Prop} : lenK Tryd.prog st 87 x K = K (.val (.int .i64 (32 : Nat))) := len_array Tryd.underlying87
theorem ixs87 {st : PS} {x y : Operand} {K : PV → Prop} : indexAddrK Tryd.prog st 87 x y K = bindO (st.ev x) fun p => bindO (st.ev y) fun q => intK q fun i => ixA 1 32 i K p := ix_array Tryd.underlying87 sz5
theorem bld87 {st : PS} {l : List (Nat × Operand)} {K : PV → Prop} : buildK Tryd.prog st 87 l K = bindO (evParts st l) fun ps => (ps.all fun e => match e.2 with | .tup _ => false | _ => true) = true ∧ bindO (fillP (fun i => some (i * 1, 1)) [.val (.int .u8 0), .val (.int .u8 0), .val (.int .u8 0), .val (.int .u8 0), .val (.int .u8 0), .val (.int .u8 0), .val (.int .u8 0), .val (.int .u8 0), .val (.int .u8 0), .val (.int .u8 0), .val (.int .u8 0), .val (.int .u8 0), .val (.int .u8 0), .val (.int .u8 0), .val (.int .u8 0), .val (.int .u8 0), .val (.int .u8 0), .val (.int .u8 0), .val (.int .u8 0), .val (.int .u8 0), .val (.int .u8 0), .val (.int .u8 0), .val (.int .u8 0), .val (.int .u8 0), .val (.int .u8 0), .val (.int .u8 0), .val (.int .u8 0), .val (.int .u8 0), .val (.int .u8 0), .val (.int .u8 0), .val (.int .u8 0), .val (.int .u8 0)] ps) fun cs => K (.agg cs) :=
  buildA Tryd.underlying87 z87 sz5 rfl rfl
-- 88: [64]uint8
theorem rda88 {cs : List PV} {off : Nat} : readCells Tryd.prog 88 cs off = if off + 64 ≤ cs.length then some (.agg ((cs.drop off).take 64)) else none := rd_agg ag88 sz88
theorem alc88 {dr : Bool} {st : PS} {id tk : Nat} {K : PS → Prop} {d : Option Tmp} {ty : TypeId} {pos : String} {af : Array Edge} {g : Option (Nat × Bool)} : stepN dr Tryd.prog ⟨d, .alloc 88, ty, pos, af, g⟩ st id tk K = K (PS.put { st with heap := (id, .box 88 [.val (.int .u8 0), .val (.int .u8 0), .val (.int .u8 0), .val (.int .u8 0), .val (.int .u8 0), .val (.int .u8 0), .val (.int .u8 0), .val (.int .u8 0), .val (.int .u8 0), .val (.int .u8 0), .val (.int .u8 0), .val (.int .u8 0), .val (.int .u8 0), .val (.int .u8 0), .val (.int .u8 0), .val (.int .u8 0), .val (.int .u8 0), .val (.int .u8 0), .val (.int .u8 0), .val (.int .u8 0), .val (.int .u8 0), .val (.int .u8 0), .val (.int .u8 0), .val (.int .u8 0), .val (.int .u8 0), .val (.int .u8 0), .val (.int .u8 0), .val (.int .u8 0), .val (.int .u8 0), .val (.int .u8 0), .val (.int .u8 0), .val (.int .u8 0), .val (.int .u8 0), .val (.int .u8 0), .val (.int .u8 0), .val (.int .u8 0), .val (.int .u8 0), .val (.int .u8 0), .val (.int .u8 0), .val (.int .u8 0), .val (.int .u8 0), .val (.int .u8 0), .val (.int .u8 0), .val (.int .u8 0), .val (.int .u8 0), .val (.int .u8 0), .val (.int .u8 0), .val (.int .u8 0), .val (.int .u8 0), .val (.int .u8 0), .val (.int .u8 0), .val (.int .u8 0), .val (.int .u8 0), .val (.int .u8 0), .val (.int .u8 0), .val (.int .u8 0), .val (.int .u8 0), .val (.int .u8 0), .val (.int .u8 0), .val (.int .u8 0), .val (.int .u8 0), .val (.int .u8 0), .val (.int .u8 0), .val (.int .u8 0)]) :: st.heap } d (.ptr id 0)) := s_allocC z88 rfl rfl
theorem lns88 {st : PS} {x : Operand} {K : PV → Prop} : lenK Tryd.prog st 88 x K = K (.val (.int .i64 (64 : Nat))) := len_array Tryd.underlying88
theorem ixs88 {st : PS} {x y : Operand} {K : PV → Prop} : indexAddrK Tryd.prog st 88 x y K = bindO (st.ev x) fun p => bindO (st.ev y) fun q => intK q fun i => ixA 1 64 i K p := ix_array Tryd.underlying88 sz5
theorem bld88 {st : PS} {l : List (Nat × Operand)} {K : PV → Prop} : buildK Tryd.prog st 88 l K = bindO (evParts st l) fun ps => (ps.all fun e => match e.2 with | .tup _ => false | _ => true) = true ∧ bindO (fillP (fun i => some (i * 1, 1)) [.val (.int .u8 0), .val (.int .u8 0), .val (.int .u8 0), .val (.int .u8 0), .val (.int .u8 0), .val (.int .u8 0), .val (.int .u8 0), .val (.int .u8 0), .val (.int .u8 0), .val (.int .u8 0), .val (.int .u8 0), .val (.int .u8 0), .val (.int .u8 0), .val (.int .u8 0), .val (.int .u8 0), .val (.int .u8 0), .val (.int .u8 0), .val (.int .u8 0), .val (.int .u8 0), .val (.int .u8 0), .val (.int .u8 0), .val (.int .u8 0), .val (.int .u8 0), .val (.int .u8 0), .val (.int .u8 0), .val (.int .u8 0), .val (.int .u8 0), .val (.int .u8 0), .val (.int .u8 0), .val (.int .u8 0), .val (.int .u8 0), .val (.int .u8 0), .val (.int .u8 0), .val (.int .u8 0), .val (.int .u8 0), .val (.int .u8 0), .val (.int .u8 0), .val (.int .u8 0), .val (.int .u8 0), .val (.int .u8 0), .val (.int .u8 0), .val (.int .u8 0), .val (.int .u8 0), .val (.int .u8 0), .val (.int .u8 0), .val (.int .u8 0), .val (.int .u8 0), .val (.int .u8 0), .val (.int .u8 0), .val (.int .u8 0), .val (.int .u8 0), .val (.int .u8 0), .val (.int .u8 0), .val (.int .u8 0), .val (.int .u8 0), .val (.int .u8 0), .val (.int .u8 0), .val (.int .u8 0), .val (.int .u8 0), .val (.int .u8 0), .val (.int .u8 0), .val (.int .u8 0), .val (.int .u8 0), .val (.int .u8 0)] ps) fun cs => K (.agg cs) :=
  buildA Tryd.underlying88 z88 sz5 rfl rfl
-- 89: func() string
theorem rdo89 {cs : List PV} {off : Nat} : readCells Tryd.prog 89 cs off = cs[off]? := rd_one ag89
-- 92: [0]*runtime.PanicNilError
-- 93: struct { _ [0]*runtime.PanicNilError }
theorem mki93 {dr : Bool} {st : PS} {id tk : Nat} {K : PS → Prop} {d : Option Tmp} {ty : TypeId} {pos : String} {af : Array Edge} {g : Option (Nat × Bool)} {x : Operand} : stepN dr Tryd.prog ⟨d, .makeInterface 93 x, ty, pos, af, g⟩ st id tk K = bindO (st.ev x) fun p => K (st.put d (.iface 93 p)) := s_makeIface Tryd.underlying93 rfl
-- 95: func() int
theorem rdo95 {cs : List PV} {off : Nat} : readCells Tryd.prog 95 cs off = cs[off]? := rd_one ag95
-- 98: func(unsafe.Pointer, unsafe.Pointer) bool
theorem rdo98 {cs : List PV} {off : Nat} : readCells Tryd.prog 98 cs off = cs[off]? := rd_one ag98
attribute [go_sem ↓] alc2 mki2 alc3 mki3 alc4 alc5 mki5 alc9 mki9 rng9 lns9 ixs9 sls9 alc12 mki12 alc13 mki13 fa13_0 fi13_0 fa13_1 fi13_1 bld13 alc20 alc21 mki21 alc23 mki23 alc26 lns26 ixs26 sls26 app26 bs26 mks26 alc27 mki27 fa27_0 fi27_0 fa27_1 fi27_1 bld27 alc28 mki28 fa28_0 fi28_0 fa28_1 fi28_1 bld28 alc38 alc39 alc51 mki51 alc52 mki52 alc55 mki55 alc56 mki56 alc62 lns62 ixs62 bld62 alc65 lns65 ixs65 sls65 aps65 cvr65 app65 bs65 mks65 alc72 mki72 fa72_0 fi72_0 fa72_1 fi72_1 fa72_2 fi72_2 bld72 alc73 mki73 fa73_0 fi73_0 fa73_1 fi73_1 fa73_2 fi73_2 bld73 alc77 lns77 ixs77 bld77 alc78 mki78 alc82 mki82 alc83 mki83 alc84 mki84 fa84_0 fi84_0 bld84 alc85 mki85 fa85_0 fi85_0 bld85 alc87 lns87 ixs87 bld87 alc88 lns88 ixs88 bld88 mki93
attribute [go_sem] rdo1 sz1 rdo2 sz2 Tryd.underlying2 rdo3 sz3 Tryd.underlying3 rdo4 sz4 Tryd.underlying4 rdo5 sz5 Tryd.underlying5 rdo9 sz9 Tryd.underlying9 rdo12 sz12 Tryd.underlying12 rda13 sz13 rdo20 sz20 ifx20 rdo21 sz21 Tryd.underlying21 rdo22 sz22 rdo23 sz23 Tryd.underlying23 rdo25 sz25 rdo26 sz26 rda27 sz27 rda28 sz28 rdo30 sz30 rdo31 sz31 rdo32 sz32 rdo33 sz33 rdo34 sz34 rdo35 sz35 rdo36 sz36 rdo37 sz37 rdo38 sz38 ifx38 rdo39 sz39 ifx39 rdo41 sz41 rdo42 sz42 rdo43 sz43 rdo44 sz44 rdo45 sz45 rdo46 sz46 rdo47 sz47 rdo48 sz48 rdo49 sz49 rdo50 sz50 rdo51 sz51 Tryd.underlying51 rdo52 sz52 Tryd.underlying52 rdo54 sz54 rdo55 sz55 Tryd.underlying55 rdo56 sz56 rdo57 sz57 rdo58 sz58 rdo59 sz59 rdo60 sz60 rdo61 sz61 rda62 sz62 rdo63 sz63 rdo64 sz64 rdo65 sz65 isb65 Tryd.underlying65 rdo67 sz67 rdo68 sz68 rdo69 sz69 rdo70 sz70 rdo71 sz71 rda72 sz72 rda73 sz73 rdo74 sz74 rdo75 sz75 rdo76 sz76 rda77 sz77 rdo78 sz78 Tryd.underlying78 rdo80 sz80 rdo81 sz81 rdo82 sz82 rdo83 sz83 rda84 sz84 rda85 sz85 rdo86 sz86 rda87 sz87 rda88 sz88 rdo89 sz89 sz92 sz93 rdo95 sz95 rdo98 sz98
end Go.Proofs.YtppefmkknmdfkaaDoor
