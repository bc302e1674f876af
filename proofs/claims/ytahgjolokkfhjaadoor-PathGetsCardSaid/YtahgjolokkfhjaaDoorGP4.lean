import Derived.Test.YtahgjolokkfhjaaDoorProg
import Derived.Test.YtahgjolokkfhjaaDoorGP3
/-
  The types of this seat's program: sizes, zero values, the rules by which their operations are rewritten.
-/
namespace Go.Proofs.YtahgjolokkfhjaaDoor
open Go Go.Pw
set_option linter.unusedVariables false
set_option maxRecDepth 4000
theorem ag1 : aggT Tryd.prog 1 = some false := by kernel_rfl
theorem sz1 : sizeOf? Tryd.prog 1 = some 1 := by kernel_rfl
theorem z1 : zeroOf? Tryd.prog 1 = some (.nilFunc) := by kernel_rfl
theorem ag2 : aggT Tryd.prog 2 = some false := by kernel_rfl
theorem sz2 : sizeOf? Tryd.prog 2 = some 1 := by kernel_rfl
theorem z2 : zeroOf? Tryd.prog 2 = some (.int .i64 0) := by kernel_rfl
theorem by2 : bytesOf? Tryd.prog 2 = some 8 := by kernel_rfl
theorem ag3 : aggT Tryd.prog 3 = some false := by kernel_rfl
theorem sz3 : sizeOf? Tryd.prog 3 = some 1 := by kernel_rfl
theorem z3 : zeroOf? Tryd.prog 3 = some (.int .i64 0) := by kernel_rfl
theorem by3 : bytesOf? Tryd.prog 3 = some 8 := by kernel_rfl
theorem ag4 : aggT Tryd.prog 4 = some false := by kernel_rfl
theorem sz4 : sizeOf? Tryd.prog 4 = some 1 := by kernel_rfl
theorem z4 : zeroOf? Tryd.prog 4 = some (.bool false) := by kernel_rfl
theorem by4 : bytesOf? Tryd.prog 4 = some 1 := by kernel_rfl
theorem ag5 : aggT Tryd.prog 5 = some false := by kernel_rfl
theorem sz5 : sizeOf? Tryd.prog 5 = some 1 := by kernel_rfl
theorem z5 : zeroOf? Tryd.prog 5 = some (.int .u8 0) := by kernel_rfl
theorem by5 : bytesOf? Tryd.prog 5 = some 1 := by kernel_rfl
theorem ag9 : aggT Tryd.prog 9 = some false := by kernel_rfl
theorem sz9 : sizeOf? Tryd.prog 9 = some 1 := by kernel_rfl
theorem z9 : zeroOf? Tryd.prog 9 = some (.string ByteArray.empty) := by kernel_rfl
theorem by9 : bytesOf? Tryd.prog 9 = some 16 := by kernel_rfl
theorem ag12 : aggT Tryd.prog 12 = some false := by kernel_rfl
theorem sz12 : sizeOf? Tryd.prog 12 = some 1 := by kernel_rfl
theorem z12 : zeroOf? Tryd.prog 12 = some (.int .u64 0) := by kernel_rfl
theorem by12 : bytesOf? Tryd.prog 12 = some 8 := by kernel_rfl
theorem ag13 : aggT Tryd.prog 13 = some true := by kernel_rfl
theorem sz13 : sizeOf? Tryd.prog 13 = some 2 := by kernel_rfl
theorem z13 : zeroOf? Tryd.prog 13 = some (.agg #[.string ByteArray.empty, .int .u64 0]) := by kernel_rfl
theorem by13 : bytesOf? Tryd.prog 13 = some 24 := by kernel_rfl
theorem ag20 : aggT Tryd.prog 20 = some false := by kernel_rfl
theorem sz20 : sizeOf? Tryd.prog 20 = some 1 := by kernel_rfl
theorem z20 : zeroOf? Tryd.prog 20 = some (.nilIface) := by kernel_rfl
theorem ag21 : aggT Tryd.prog 21 = some false := by kernel_rfl
theorem sz21 : sizeOf? Tryd.prog 21 = some 1 := by kernel_rfl
theorem z21 : zeroOf? Tryd.prog 21 = some (.int .i32 0) := by kernel_rfl
theorem by21 : bytesOf? Tryd.prog 21 = some 4 := by kernel_rfl
theorem ag22 : aggT Tryd.prog 22 = some false := by kernel_rfl
theorem sz22 : sizeOf? Tryd.prog 22 = some 1 := by kernel_rfl
theorem z22 : zeroOf? Tryd.prog 22 = some (.slice none 0 0) := by kernel_rfl
theorem by22 : bytesOf? Tryd.prog 22 = some 24 := by kernel_rfl
theorem ag23 : aggT Tryd.prog 23 = some false := by kernel_rfl
theorem sz23 : sizeOf? Tryd.prog 23 = some 1 := by kernel_rfl
theorem z23 : zeroOf? Tryd.prog 23 = some (.slice none 0 0) := by kernel_rfl
theorem by23 : bytesOf? Tryd.prog 23 = some 24 := by kernel_rfl
theorem ag24 : aggT Tryd.prog 24 = some false := by kernel_rfl
theorem sz24 : sizeOf? Tryd.prog 24 = some 1 := by kernel_rfl
theorem z24 : zeroOf? Tryd.prog 24 = some (.nilFunc) := by kernel_rfl
theorem ag25 : aggT Tryd.prog 25 = some false := by kernel_rfl
theorem sz25 : sizeOf? Tryd.prog 25 = some 1 := by kernel_rfl
theorem z25 : zeroOf? Tryd.prog 25 = some (.nilFunc) := by kernel_rfl
theorem ag26 : aggT Tryd.prog 26 = some false := by kernel_rfl
theorem sz26 : sizeOf? Tryd.prog 26 = some 1 := by kernel_rfl
theorem z26 : zeroOf? Tryd.prog 26 = some (.slice none 0 0) := by kernel_rfl
theorem by26 : bytesOf? Tryd.prog 26 = some 24 := by kernel_rfl
theorem ag27 : aggT Tryd.prog 27 = some true := by kernel_rfl
theorem sz27 : sizeOf? Tryd.prog 27 = some 6 := by kernel_rfl
theorem z27 : zeroOf? Tryd.prog 27 = some (.agg #[.int .i64 0, .bool false, .int .i64 0, .string ByteArray.empty, .slice none 0 0, .slice none 0 0]) := by kernel_rfl
theorem by27 : bytesOf? Tryd.prog 27 = some 88 := by kernel_rfl
theorem ag28 : aggT Tryd.prog 28 = some true := by kernel_rfl
theorem sz28 : sizeOf? Tryd.prog 28 = some 6 := by kernel_rfl
theorem z28 : zeroOf? Tryd.prog 28 = some (.agg #[.int .i64 0, .bool false, .int .i64 0, .string ByteArray.empty, .slice none 0 0, .slice none 0 0]) := by kernel_rfl
theorem by28 : bytesOf? Tryd.prog 28 = some 88 := by kernel_rfl
theorem ag29 : aggT Tryd.prog 29 = some false := by kernel_rfl
theorem sz29 : sizeOf? Tryd.prog 29 = some 1 := by kernel_rfl
theorem z29 : zeroOf? Tryd.prog 29 = some (.nilFunc) := by kernel_rfl
theorem ag30 : aggT Tryd.prog 30 = some false := by kernel_rfl
theorem sz30 : sizeOf? Tryd.prog 30 = some 1 := by kernel_rfl
theorem z30 : zeroOf? Tryd.prog 30 = some (.slice none 0 0) := by kernel_rfl
theorem by30 : bytesOf? Tryd.prog 30 = some 24 := by kernel_rfl
theorem ag31 : aggT Tryd.prog 31 = some true := by kernel_rfl
theorem sz31 : sizeOf? Tryd.prog 31 = some 6 := by kernel_rfl
theorem z31 : zeroOf? Tryd.prog 31 = some (.agg #[.int .i64 0, .bool false, .int .i64 0, .string ByteArray.empty, .slice none 0 0, .slice none 0 0]) := by kernel_rfl
theorem by31 : bytesOf? Tryd.prog 31 = some 88 := by kernel_rfl
theorem ag32 : aggT Tryd.prog 32 = some true := by kernel_rfl
theorem sz32 : sizeOf? Tryd.prog 32 = some 6 := by kernel_rfl
theorem z32 : zeroOf? Tryd.prog 32 = some (.agg #[.int .i64 0, .bool false, .int .i64 0, .string ByteArray.empty, .slice none 0 0, .slice none 0 0]) := by kernel_rfl
theorem by32 : bytesOf? Tryd.prog 32 = some 88 := by kernel_rfl
theorem ag33 : aggT Tryd.prog 33 = some false := by kernel_rfl
theorem sz33 : sizeOf? Tryd.prog 33 = some 1 := by kernel_rfl
theorem z33 : zeroOf? Tryd.prog 33 = some (.int .i64 0) := by kernel_rfl
theorem by33 : bytesOf? Tryd.prog 33 = some 8 := by kernel_rfl
theorem ag35 : aggT Tryd.prog 35 = some false := by kernel_rfl
theorem sz35 : sizeOf? Tryd.prog 35 = some 1 := by kernel_rfl
theorem z35 : zeroOf? Tryd.prog 35 = some (.nilFunc) := by kernel_rfl
theorem ag36 : aggT Tryd.prog 36 = some false := by kernel_rfl
theorem sz36 : sizeOf? Tryd.prog 36 = some 1 := by kernel_rfl
theorem z36 : zeroOf? Tryd.prog 36 = some (.nilFunc) := by kernel_rfl
theorem ag38 : aggT Tryd.prog 38 = some false := by kernel_rfl
theorem sz38 : sizeOf? Tryd.prog 38 = some 1 := by kernel_rfl
theorem z38 : zeroOf? Tryd.prog 38 = some (.nilFunc) := by kernel_rfl
theorem ag39 : aggT Tryd.prog 39 = some false := by kernel_rfl
theorem sz39 : sizeOf? Tryd.prog 39 = some 1 := by kernel_rfl
theorem z39 : zeroOf? Tryd.prog 39 = some (.nilFunc) := by kernel_rfl
theorem ag40 : aggT Tryd.prog 40 = some false := by kernel_rfl
theorem sz40 : sizeOf? Tryd.prog 40 = some 1 := by kernel_rfl
theorem z40 : zeroOf? Tryd.prog 40 = some (.nilFunc) := by kernel_rfl
theorem ag41 : aggT Tryd.prog 41 = some false := by kernel_rfl
theorem sz41 : sizeOf? Tryd.prog 41 = some 1 := by kernel_rfl
theorem z41 : zeroOf? Tryd.prog 41 = some (.nilFunc) := by kernel_rfl
theorem ag42 : aggT Tryd.prog 42 = some false := by kernel_rfl
theorem sz42 : sizeOf? Tryd.prog 42 = some 1 := by kernel_rfl
theorem z42 : zeroOf? Tryd.prog 42 = some (.slice none 0 0) := by kernel_rfl
theorem by42 : bytesOf? Tryd.prog 42 = some 24 := by kernel_rfl
theorem ag43 : aggT Tryd.prog 43 = some false := by kernel_rfl
theorem sz43 : sizeOf? Tryd.prog 43 = some 1 := by kernel_rfl
theorem z43 : zeroOf? Tryd.prog 43 = some (.nilFunc) := by kernel_rfl
theorem ag44 : aggT Tryd.prog 44 = some false := by kernel_rfl
theorem sz44 : sizeOf? Tryd.prog 44 = some 1 := by kernel_rfl
theorem z44 : zeroOf? Tryd.prog 44 = some (.nilFunc) := by kernel_rfl
theorem ag45 : aggT Tryd.prog 45 = some false := by kernel_rfl
theorem sz45 : sizeOf? Tryd.prog 45 = some 1 := by kernel_rfl
theorem z45 : zeroOf? Tryd.prog 45 = some (.nilFunc) := by kernel_rfl
theorem ag46 : aggT Tryd.prog 46 = some false := by kernel_rfl
theorem sz46 : sizeOf? Tryd.prog 46 = some 1 := by kernel_rfl
theorem z46 : zeroOf? Tryd.prog 46 = some (.nilFunc) := by kernel_rfl
theorem ag47 : aggT Tryd.prog 47 = some false := by kernel_rfl
theorem sz47 : sizeOf? Tryd.prog 47 = some 1 := by kernel_rfl
theorem z47 : zeroOf? Tryd.prog 47 = some (.nilFunc) := by kernel_rfl
theorem ag48 : aggT Tryd.prog 48 = some true := by kernel_rfl
theorem sz48 : sizeOf? Tryd.prog 48 = some 7 := by kernel_rfl
theorem z48 : zeroOf? Tryd.prog 48 = some (.agg #[.slice none 0 0, .int .i64 0, .bool false, .int .i64 0, .string ByteArray.empty, .slice none 0 0, .slice none 0 0]) := by kernel_rfl
theorem by48 : bytesOf? Tryd.prog 48 = some 112 := by kernel_rfl
theorem ag49 : aggT Tryd.prog 49 = some true := by kernel_rfl
theorem sz49 : sizeOf? Tryd.prog 49 = some 7 := by kernel_rfl
theorem z49 : zeroOf? Tryd.prog 49 = some (.agg #[.slice none 0 0, .int .i64 0, .bool false, .int .i64 0, .string ByteArray.empty, .slice none 0 0, .slice none 0 0]) := by kernel_rfl
theorem by49 : bytesOf? Tryd.prog 49 = some 112 := by kernel_rfl
theorem ag50 : aggT Tryd.prog 50 = some false := by kernel_rfl
theorem sz50 : sizeOf? Tryd.prog 50 = some 1 := by kernel_rfl
theorem z50 : zeroOf? Tryd.prog 50 = some (.nilFunc) := by kernel_rfl
theorem ag51 : aggT Tryd.prog 51 = some false := by kernel_rfl
theorem sz51 : sizeOf? Tryd.prog 51 = some 1 := by kernel_rfl
theorem z51 : zeroOf? Tryd.prog 51 = some (.nilFunc) := by kernel_rfl
theorem ag52 : aggT Tryd.prog 52 = some false := by kernel_rfl
theorem sz52 : sizeOf? Tryd.prog 52 = some 1 := by kernel_rfl
theorem z52 : zeroOf? Tryd.prog 52 = some (.int .u16 0) := by kernel_rfl
theorem by52 : bytesOf? Tryd.prog 52 = some 2 := by kernel_rfl
theorem ag53 : aggT Tryd.prog 53 = some true := by kernel_rfl
theorem sz53 : sizeOf? Tryd.prog 53 = some 2 := by kernel_rfl
theorem z53 : zeroOf? Tryd.prog 53 = some (.agg #[.int .u16 0, .slice none 0 0]) := by kernel_rfl
theorem by53 : bytesOf? Tryd.prog 53 = some 32 := by kernel_rfl
theorem ag54 : aggT Tryd.prog 54 = some true := by kernel_rfl
theorem sz54 : sizeOf? Tryd.prog 54 = some 2 := by kernel_rfl
theorem z54 : zeroOf? Tryd.prog 54 = some (.agg #[.int .u16 0, .slice none 0 0]) := by kernel_rfl
theorem by54 : bytesOf? Tryd.prog 54 = some 32 := by kernel_rfl
theorem ag55 : aggT Tryd.prog 55 = some false := by kernel_rfl
theorem sz55 : sizeOf? Tryd.prog 55 = some 1 := by kernel_rfl
theorem z55 : zeroOf? Tryd.prog 55 = some (.nilFunc) := by kernel_rfl
theorem ag56 : aggT Tryd.prog 56 = some false := by kernel_rfl
theorem sz56 : sizeOf? Tryd.prog 56 = some 1 := by kernel_rfl
theorem z56 : zeroOf? Tryd.prog 56 = some (.nilFunc) := by kernel_rfl
theorem ag57 : aggT Tryd.prog 57 = some false := by kernel_rfl
theorem sz57 : sizeOf? Tryd.prog 57 = some 1 := by kernel_rfl
theorem z57 : zeroOf? Tryd.prog 57 = some (.nilFunc) := by kernel_rfl
theorem ag58 : aggT Tryd.prog 58 = some false := by kernel_rfl
theorem sz58 : sizeOf? Tryd.prog 58 = some 1 := by kernel_rfl
theorem z58 : zeroOf? Tryd.prog 58 = some (.nilFunc) := by kernel_rfl
theorem ag59 : aggT Tryd.prog 59 = some true := by kernel_rfl
theorem sz59 : sizeOf? Tryd.prog 59 = some 2 := by kernel_rfl
theorem z59 : zeroOf? Tryd.prog 59 = some (.agg #[.int .u16 0, .int .u16 0]) := by kernel_rfl
theorem by59 : bytesOf? Tryd.prog 59 = some 4 := by kernel_rfl
theorem ag60 : aggT Tryd.prog 60 = some false := by kernel_rfl
theorem sz60 : sizeOf? Tryd.prog 60 = some 1 := by kernel_rfl
theorem z60 : zeroOf? Tryd.prog 60 = some (.nilFunc) := by kernel_rfl
theorem ag61 : aggT Tryd.prog 61 = some false := by kernel_rfl
theorem sz61 : sizeOf? Tryd.prog 61 = some 1 := by kernel_rfl
theorem z61 : zeroOf? Tryd.prog 61 = some (.nilFunc) := by kernel_rfl
theorem ag62 : aggT Tryd.prog 62 = some false := by kernel_rfl
theorem sz62 : sizeOf? Tryd.prog 62 = some 1 := by kernel_rfl
theorem z62 : zeroOf? Tryd.prog 62 = some (.nilFunc) := by kernel_rfl
theorem ag64 : aggT Tryd.prog 64 = some false := by kernel_rfl
theorem sz64 : sizeOf? Tryd.prog 64 = some 1 := by kernel_rfl
theorem z64 : zeroOf? Tryd.prog 64 = some (.nilFunc) := by kernel_rfl
theorem ag66 : aggT Tryd.prog 66 = some false := by kernel_rfl
theorem sz66 : sizeOf? Tryd.prog 66 = some 1 := by kernel_rfl
theorem z66 : zeroOf? Tryd.prog 66 = some (.nilFunc) := by kernel_rfl
theorem ag67 : aggT Tryd.prog 67 = some false := by kernel_rfl
theorem sz67 : sizeOf? Tryd.prog 67 = some 1 := by kernel_rfl
theorem z67 : zeroOf? Tryd.prog 67 = some (.nilFunc) := by kernel_rfl
theorem ag68 : aggT Tryd.prog 68 = some false := by kernel_rfl
theorem sz68 : sizeOf? Tryd.prog 68 = some 1 := by kernel_rfl
theorem z68 : zeroOf? Tryd.prog 68 = some (.nilFunc) := by kernel_rfl
theorem ag69 : aggT Tryd.prog 69 = some false := by kernel_rfl
theorem sz69 : sizeOf? Tryd.prog 69 = some 1 := by kernel_rfl
theorem z69 : zeroOf? Tryd.prog 69 = some (.nilFunc) := by kernel_rfl
theorem ag70 : aggT Tryd.prog 70 = some false := by kernel_rfl
theorem sz70 : sizeOf? Tryd.prog 70 = some 1 := by kernel_rfl
theorem z70 : zeroOf? Tryd.prog 70 = some (.nilFunc) := by kernel_rfl
theorem ag71 : aggT Tryd.prog 71 = some false := by kernel_rfl
theorem sz71 : sizeOf? Tryd.prog 71 = some 1 := by kernel_rfl
theorem z71 : zeroOf? Tryd.prog 71 = some (.slice none 0 0) := by kernel_rfl
theorem by71 : bytesOf? Tryd.prog 71 = some 24 := by kernel_rfl
theorem ag72 : aggT Tryd.prog 72 = some true := by kernel_rfl
theorem sz72 : sizeOf? Tryd.prog 72 = some 5 := by kernel_rfl
theorem z72 : zeroOf? Tryd.prog 72 = some (.agg #[.int .u8 0, .int .i64 0, .string ByteArray.empty, .slice none 0 0, .slice none 0 0]) := by kernel_rfl
theorem by72 : bytesOf? Tryd.prog 72 = some 80 := by kernel_rfl
theorem ag73 : aggT Tryd.prog 73 = some true := by kernel_rfl
theorem sz73 : sizeOf? Tryd.prog 73 = some 5 := by kernel_rfl
theorem z73 : zeroOf? Tryd.prog 73 = some (.agg #[.int .u8 0, .int .i64 0, .string ByteArray.empty, .slice none 0 0, .slice none 0 0]) := by kernel_rfl
theorem by73 : bytesOf? Tryd.prog 73 = some 80 := by kernel_rfl
theorem ag74 : aggT Tryd.prog 74 = some false := by kernel_rfl
theorem sz74 : sizeOf? Tryd.prog 74 = some 1 := by kernel_rfl
theorem z74 : zeroOf? Tryd.prog 74 = some (.nilFunc) := by kernel_rfl
theorem ag75 : aggT Tryd.prog 75 = some false := by kernel_rfl
theorem sz75 : sizeOf? Tryd.prog 75 = some 1 := by kernel_rfl
theorem z75 : zeroOf? Tryd.prog 75 = some (.nilFunc) := by kernel_rfl
theorem ag76 : aggT Tryd.prog 76 = some false := by kernel_rfl
theorem sz76 : sizeOf? Tryd.prog 76 = some 1 := by kernel_rfl
theorem z76 : zeroOf? Tryd.prog 76 = some (.nilFunc) := by kernel_rfl
theorem ag77 : aggT Tryd.prog 77 = some false := by kernel_rfl
theorem sz77 : sizeOf? Tryd.prog 77 = some 1 := by kernel_rfl
theorem z77 : zeroOf? Tryd.prog 77 = some (.nilFunc) := by kernel_rfl
theorem ag78 : aggT Tryd.prog 78 = some false := by kernel_rfl
theorem sz78 : sizeOf? Tryd.prog 78 = some 1 := by kernel_rfl
theorem z78 : zeroOf? Tryd.prog 78 = some (.nilFunc) := by kernel_rfl
theorem ag79 : aggT Tryd.prog 79 = some false := by kernel_rfl
theorem sz79 : sizeOf? Tryd.prog 79 = some 1 := by kernel_rfl
theorem z79 : zeroOf? Tryd.prog 79 = some (.nilFunc) := by kernel_rfl
theorem ag80 : aggT Tryd.prog 80 = some false := by kernel_rfl
theorem sz80 : sizeOf? Tryd.prog 80 = some 1 := by kernel_rfl
theorem z80 : zeroOf? Tryd.prog 80 = some (.nilFunc) := by kernel_rfl
theorem ag81 : aggT Tryd.prog 81 = some false := by kernel_rfl
theorem sz81 : sizeOf? Tryd.prog 81 = some 1 := by kernel_rfl
theorem z81 : zeroOf? Tryd.prog 81 = some (.slice none 0 0) := by kernel_rfl
theorem by81 : bytesOf? Tryd.prog 81 = some 24 := by kernel_rfl
theorem ag82 : aggT Tryd.prog 82 = some true := by kernel_rfl
theorem sz82 : sizeOf? Tryd.prog 82 = some 2 := by kernel_rfl
theorem z82 : zeroOf? Tryd.prog 82 = some (.agg #[.bool false, .slice none 0 0]) := by kernel_rfl
theorem by82 : bytesOf? Tryd.prog 82 = some 32 := by kernel_rfl
theorem ag83 : aggT Tryd.prog 83 = some true := by kernel_rfl
theorem sz83 : sizeOf? Tryd.prog 83 = some 2 := by kernel_rfl
theorem z83 : zeroOf? Tryd.prog 83 = some (.agg #[.bool false, .slice none 0 0]) := by kernel_rfl
theorem by83 : bytesOf? Tryd.prog 83 = some 32 := by kernel_rfl
theorem ag84 : aggT Tryd.prog 84 = some false := by kernel_rfl
theorem sz84 : sizeOf? Tryd.prog 84 = some 1 := by kernel_rfl
theorem z84 : zeroOf? Tryd.prog 84 = some (.nilFunc) := by kernel_rfl
theorem ag85 : aggT Tryd.prog 85 = some false := by kernel_rfl
theorem sz85 : sizeOf? Tryd.prog 85 = some 1 := by kernel_rfl
theorem z85 : zeroOf? Tryd.prog 85 = some (.nilFunc) := by kernel_rfl
theorem ag86 : aggT Tryd.prog 86 = some false := by kernel_rfl
theorem sz86 : sizeOf? Tryd.prog 86 = some 1 := by kernel_rfl
theorem z86 : zeroOf? Tryd.prog 86 = some (.nilFunc) := by kernel_rfl
theorem ag87 : aggT Tryd.prog 87 = some false := by kernel_rfl
theorem sz87 : sizeOf? Tryd.prog 87 = some 1 := by kernel_rfl
theorem z87 : zeroOf? Tryd.prog 87 = some (.pointer none) := by kernel_rfl
theorem by87 : bytesOf? Tryd.prog 87 = some 8 := by kernel_rfl
theorem ag88 : aggT Tryd.prog 88 = some false := by kernel_rfl
theorem sz88 : sizeOf? Tryd.prog 88 = some 1 := by kernel_rfl
theorem z88 : zeroOf? Tryd.prog 88 = some (.nilFunc) := by kernel_rfl
theorem ag89 : aggT Tryd.prog 89 = some false := by kernel_rfl
theorem sz89 : sizeOf? Tryd.prog 89 = some 1 := by kernel_rfl
theorem z89 : zeroOf? Tryd.prog 89 = some (.nilFunc) := by kernel_rfl
theorem ag90 : aggT Tryd.prog 90 = some false := by kernel_rfl
theorem sz90 : sizeOf? Tryd.prog 90 = some 1 := by kernel_rfl
theorem z90 : zeroOf? Tryd.prog 90 = some (.nilFunc) := by kernel_rfl
theorem ag91 : aggT Tryd.prog 91 = some false := by kernel_rfl
theorem sz91 : sizeOf? Tryd.prog 91 = some 1 := by kernel_rfl
theorem z91 : zeroOf? Tryd.prog 91 = some (.nilFunc) := by kernel_rfl
theorem ag92 : aggT Tryd.prog 92 = some false := by kernel_rfl
theorem sz92 : sizeOf? Tryd.prog 92 = some 1 := by kernel_rfl
theorem z92 : zeroOf? Tryd.prog 92 = some (.nilFunc) := by kernel_rfl
theorem ag94 : aggT Tryd.prog 94 = some false := by kernel_rfl
theorem sz94 : sizeOf? Tryd.prog 94 = some 1 := by kernel_rfl
theorem z94 : zeroOf? Tryd.prog 94 = some (.nilFunc) := by kernel_rfl
theorem ag95 : aggT Tryd.prog 95 = some false := by kernel_rfl
theorem sz95 : sizeOf? Tryd.prog 95 = some 1 := by kernel_rfl
theorem z95 : zeroOf? Tryd.prog 95 = some (.nilFunc) := by kernel_rfl
theorem ag97 : aggT Tryd.prog 97 = some false := by kernel_rfl
theorem sz97 : sizeOf? Tryd.prog 97 = some 1 := by kernel_rfl
theorem z97 : zeroOf? Tryd.prog 97 = some (.nilFunc) := by kernel_rfl
theorem ag99 : aggT Tryd.prog 99 = some false := by kernel_rfl
theorem sz99 : sizeOf? Tryd.prog 99 = some 1 := by kernel_rfl
theorem z99 : zeroOf? Tryd.prog 99 = some (.nilFunc) := by kernel_rfl
theorem ag100 : aggT Tryd.prog 100 = some false := by kernel_rfl
theorem sz100 : sizeOf? Tryd.prog 100 = some 1 := by kernel_rfl
theorem z100 : zeroOf? Tryd.prog 100 = some (.nilFunc) := by kernel_rfl
theorem ag101 : aggT Tryd.prog 101 = some false := by kernel_rfl
theorem sz101 : sizeOf? Tryd.prog 101 = some 1 := by kernel_rfl
theorem z101 : zeroOf? Tryd.prog 101 = some (.nilFunc) := by kernel_rfl
theorem ag102 : aggT Tryd.prog 102 = some false := by kernel_rfl
theorem sz102 : sizeOf? Tryd.prog 102 = some 1 := by kernel_rfl
theorem z102 : zeroOf? Tryd.prog 102 = some (.nilFunc) := by kernel_rfl
theorem ag103 : aggT Tryd.prog 103 = some false := by kernel_rfl
theorem sz103 : sizeOf? Tryd.prog 103 = some 1 := by kernel_rfl
theorem z103 : zeroOf? Tryd.prog 103 = some (.nilFunc) := by kernel_rfl
theorem ag104 : aggT Tryd.prog 104 = some false := by kernel_rfl
theorem sz104 : sizeOf? Tryd.prog 104 = some 1 := by kernel_rfl
theorem z104 : zeroOf? Tryd.prog 104 = some (.nilFunc) := by kernel_rfl
theorem ag105 : aggT Tryd.prog 105 = some false := by kernel_rfl
theorem sz105 : sizeOf? Tryd.prog 105 = some 1 := by kernel_rfl
theorem z105 : zeroOf? Tryd.prog 105 = some (.nilIface) := by kernel_rfl
theorem ag106 : aggT Tryd.prog 106 = some false := by kernel_rfl
theorem sz106 : sizeOf? Tryd.prog 106 = some 1 := by kernel_rfl
theorem z106 : zeroOf? Tryd.prog 106 = some (.nilIface) := by kernel_rfl
theorem by106 : bytesOf? Tryd.prog 106 = some 16 := by kernel_rfl
theorem ag108 : aggT Tryd.prog 108 = some false := by kernel_rfl
theorem sz108 : sizeOf? Tryd.prog 108 = some 1 := by kernel_rfl
theorem z108 : zeroOf? Tryd.prog 108 = some (.nilFunc) := by kernel_rfl
theorem ag109 : aggT Tryd.prog 109 = some false := by kernel_rfl
theorem sz109 : sizeOf? Tryd.prog 109 = some 1 := by kernel_rfl
theorem z109 : zeroOf? Tryd.prog 109 = some (.nilFunc) := by kernel_rfl
theorem ag110 : aggT Tryd.prog 110 = some false := by kernel_rfl
theorem sz110 : sizeOf? Tryd.prog 110 = some 1 := by kernel_rfl
theorem z110 : zeroOf? Tryd.prog 110 = some (.nilFunc) := by kernel_rfl
theorem ag111 : aggT Tryd.prog 111 = some false := by kernel_rfl
theorem sz111 : sizeOf? Tryd.prog 111 = some 1 := by kernel_rfl
theorem z111 : zeroOf? Tryd.prog 111 = some (.nilFunc) := by kernel_rfl
theorem ag112 : aggT Tryd.prog 112 = some false := by kernel_rfl
theorem sz112 : sizeOf? Tryd.prog 112 = some 1 := by kernel_rfl
theorem z112 : zeroOf? Tryd.prog 112 = some (.nilFunc) := by kernel_rfl
theorem ag113 : aggT Tryd.prog 113 = some false := by kernel_rfl
theorem sz113 : sizeOf? Tryd.prog 113 = some 1 := by kernel_rfl
theorem z113 : zeroOf? Tryd.prog 113 = some (.nilFunc) := by kernel_rfl
theorem ag114 : aggT Tryd.prog 114 = some false := by kernel_rfl
theorem sz114 : sizeOf? Tryd.prog 114 = some 1 := by kernel_rfl
theorem z114 : zeroOf? Tryd.prog 114 = some (.nilFunc) := by kernel_rfl
theorem ag115 : aggT Tryd.prog 115 = some false := by kernel_rfl
theorem sz115 : sizeOf? Tryd.prog 115 = some 1 := by kernel_rfl
theorem z115 : zeroOf? Tryd.prog 115 = some (.pointer none) := by kernel_rfl
theorem by115 : bytesOf? Tryd.prog 115 = some 8 := by kernel_rfl
theorem ag116 : aggT Tryd.prog 116 = some true := by kernel_rfl
theorem sz116 : sizeOf? Tryd.prog 116 = some 2 := by kernel_rfl
theorem z116 : zeroOf? Tryd.prog 116 = some (.agg #[.pointer none, .slice none 0 0]) := by kernel_rfl
theorem by116 : bytesOf? Tryd.prog 116 = some 32 := by kernel_rfl
theorem ag117 : aggT Tryd.prog 117 = some true := by kernel_rfl
theorem sz117 : sizeOf? Tryd.prog 117 = some 2 := by kernel_rfl
theorem z117 : zeroOf? Tryd.prog 117 = some (.agg #[.pointer none, .slice none 0 0]) := by kernel_rfl
theorem by117 : bytesOf? Tryd.prog 117 = some 32 := by kernel_rfl
theorem ag118 : aggT Tryd.prog 118 = some false := by kernel_rfl
theorem sz118 : sizeOf? Tryd.prog 118 = some 1 := by kernel_rfl
theorem z118 : zeroOf? Tryd.prog 118 = some (.nilFunc) := by kernel_rfl
theorem ag119 : aggT Tryd.prog 119 = some false := by kernel_rfl
theorem sz119 : sizeOf? Tryd.prog 119 = some 1 := by kernel_rfl
theorem z119 : zeroOf? Tryd.prog 119 = some (.nilFunc) := by kernel_rfl
theorem ag121 : aggT Tryd.prog 121 = some false := by kernel_rfl
theorem sz121 : sizeOf? Tryd.prog 121 = some 1 := by kernel_rfl
theorem z121 : zeroOf? Tryd.prog 121 = some (.nilFunc) := by kernel_rfl
theorem ag122 : aggT Tryd.prog 122 = some false := by kernel_rfl
theorem sz122 : sizeOf? Tryd.prog 122 = some 1 := by kernel_rfl
theorem z122 : zeroOf? Tryd.prog 122 = some (.nilFunc) := by kernel_rfl
theorem ag123 : aggT Tryd.prog 123 = some false := by kernel_rfl
theorem sz123 : sizeOf? Tryd.prog 123 = some 1 := by kernel_rfl
theorem z123 : zeroOf? Tryd.prog 123 = some (.int .u64 0) := by kernel_rfl
theorem by123 : bytesOf? Tryd.prog 123 = some 8 := by kernel_rfl
theorem ag124 : aggT Tryd.prog 124 = some false := by kernel_rfl
theorem sz124 : sizeOf? Tryd.prog 124 = some 1 := by kernel_rfl
theorem z124 : zeroOf? Tryd.prog 124 = some (.nilFunc) := by kernel_rfl
theorem ag125 : aggT Tryd.prog 125 = some false := by kernel_rfl
theorem sz125 : sizeOf? Tryd.prog 125 = some 1 := by kernel_rfl
theorem z125 : zeroOf? Tryd.prog 125 = some (.nilFunc) := by kernel_rfl
theorem ag126 : aggT Tryd.prog 126 = some false := by kernel_rfl
theorem sz126 : sizeOf? Tryd.prog 126 = some 1 := by kernel_rfl
theorem z126 : zeroOf? Tryd.prog 126 = some (.nilFunc) := by kernel_rfl
theorem ag127 : aggT Tryd.prog 127 = some false := by kernel_rfl
theorem sz127 : sizeOf? Tryd.prog 127 = some 1 := by kernel_rfl
theorem z127 : zeroOf? Tryd.prog 127 = some (.nilFunc) := by kernel_rfl
theorem ag128 : aggT Tryd.prog 128 = some false := by kernel_rfl
theorem sz128 : sizeOf? Tryd.prog 128 = some 1 := by kernel_rfl
theorem z128 : zeroOf? Tryd.prog 128 = some (.nilFunc) := by kernel_rfl
theorem ag129 : aggT Tryd.prog 129 = some false := by kernel_rfl
theorem sz129 : sizeOf? Tryd.prog 129 = some 1 := by kernel_rfl
theorem z129 : zeroOf? Tryd.prog 129 = some (.nilFunc) := by kernel_rfl
theorem ag130 : aggT Tryd.prog 130 = some false := by kernel_rfl
theorem sz130 : sizeOf? Tryd.prog 130 = some 1 := by kernel_rfl
theorem z130 : zeroOf? Tryd.prog 130 = some (.nilFunc) := by kernel_rfl
theorem ag131 : aggT Tryd.prog 131 = some false := by kernel_rfl
theorem sz131 : sizeOf? Tryd.prog 131 = some 1 := by kernel_rfl
theorem z131 : zeroOf? Tryd.prog 131 = some (.nilFunc) := by kernel_rfl
theorem ag132 : aggT Tryd.prog 132 = some false := by kernel_rfl
theorem sz132 : sizeOf? Tryd.prog 132 = some 1 := by kernel_rfl
theorem z132 : zeroOf? Tryd.prog 132 = some (.pointer none) := by kernel_rfl
theorem by132 : bytesOf? Tryd.prog 132 = some 8 := by kernel_rfl
theorem ag133 : aggT Tryd.prog 133 = some true := by kernel_rfl
theorem sz133 : sizeOf? Tryd.prog 133 = some 5 := by kernel_rfl
theorem z133 : zeroOf? Tryd.prog 133 = some (.agg #[.int .i64 0, .int .i64 0, .int .i64 0, .int .i64 0, .int .i64 0]) := by kernel_rfl
theorem by133 : bytesOf? Tryd.prog 133 = some 40 := by kernel_rfl
theorem ag134 : aggT Tryd.prog 134 = some false := by kernel_rfl
theorem sz134 : sizeOf? Tryd.prog 134 = some 1 := by kernel_rfl
theorem z134 : zeroOf? Tryd.prog 134 = some (.nilFunc) := by kernel_rfl
theorem ag135 : aggT Tryd.prog 135 = some false := by kernel_rfl
theorem sz135 : sizeOf? Tryd.prog 135 = some 1 := by kernel_rfl
theorem z135 : zeroOf? Tryd.prog 135 = some (.nilFunc) := by kernel_rfl
theorem ag136 : aggT Tryd.prog 136 = some false := by kernel_rfl
theorem sz136 : sizeOf? Tryd.prog 136 = some 1 := by kernel_rfl
theorem z136 : zeroOf? Tryd.prog 136 = some (.int .i64 0) := by kernel_rfl
theorem by136 : bytesOf? Tryd.prog 136 = some 8 := by kernel_rfl
theorem ag138 : aggT Tryd.prog 138 = some false := by kernel_rfl
theorem sz138 : sizeOf? Tryd.prog 138 = some 1 := by kernel_rfl
theorem z138 : zeroOf? Tryd.prog 138 = some (.nilFunc) := by kernel_rfl
theorem ag139 : aggT Tryd.prog 139 = some false := by kernel_rfl
theorem sz139 : sizeOf? Tryd.prog 139 = some 1 := by kernel_rfl
theorem z139 : zeroOf? Tryd.prog 139 = some (.pointer none) := by kernel_rfl
theorem by139 : bytesOf? Tryd.prog 139 = some 8 := by kernel_rfl
theorem ag140 : aggT Tryd.prog 140 = some false := by kernel_rfl
theorem sz140 : sizeOf? Tryd.prog 140 = some 1 := by kernel_rfl
theorem z140 : zeroOf? Tryd.prog 140 = some (.nilFunc) := by kernel_rfl
theorem ag141 : aggT Tryd.prog 141 = some false := by kernel_rfl
theorem sz141 : sizeOf? Tryd.prog 141 = some 1 := by kernel_rfl
theorem z141 : zeroOf? Tryd.prog 141 = some (.nilFunc) := by kernel_rfl
theorem ag142 : aggT Tryd.prog 142 = some false := by kernel_rfl
theorem sz142 : sizeOf? Tryd.prog 142 = some 1 := by kernel_rfl
theorem z142 : zeroOf? Tryd.prog 142 = some (.nilFunc) := by kernel_rfl
theorem ag143 : aggT Tryd.prog 143 = some false := by kernel_rfl
theorem sz143 : sizeOf? Tryd.prog 143 = some 1 := by kernel_rfl
theorem z143 : zeroOf? Tryd.prog 143 = some (.nilFunc) := by kernel_rfl
theorem ag144 : aggT Tryd.prog 144 = some false := by kernel_rfl
theorem sz144 : sizeOf? Tryd.prog 144 = some 1 := by kernel_rfl
theorem z144 : zeroOf? Tryd.prog 144 = some (.nilFunc) := by kernel_rfl
theorem ag146 : aggT Tryd.prog 146 = some false := by kernel_rfl
theorem sz146 : sizeOf? Tryd.prog 146 = some 1 := by kernel_rfl
theorem z146 : zeroOf? Tryd.prog 146 = some (.nilFunc) := by kernel_rfl
theorem ag147 : aggT Tryd.prog 147 = some false := by kernel_rfl
theorem sz147 : sizeOf? Tryd.prog 147 = some 1 := by kernel_rfl
theorem z147 : zeroOf? Tryd.prog 147 = some (.nilFunc) := by kernel_rfl
theorem ag149 : aggT Tryd.prog 149 = some false := by kernel_rfl
theorem sz149 : sizeOf? Tryd.prog 149 = some 1 := by kernel_rfl
theorem z149 : zeroOf? Tryd.prog 149 = some (.nilFunc) := by kernel_rfl
theorem ag150 : aggT Tryd.prog 150 = some false := by kernel_rfl
theorem sz150 : sizeOf? Tryd.prog 150 = some 1 := by kernel_rfl
theorem z150 : zeroOf? Tryd.prog 150 = some (.nilFunc) := by kernel_rfl
theorem ag151 : aggT Tryd.prog 151 = some false := by kernel_rfl
theorem sz151 : sizeOf? Tryd.prog 151 = some 1 := by kernel_rfl
theorem z151 : zeroOf? Tryd.prog 151 = some (.nilFunc) := by kernel_rfl
theorem ag152 : aggT Tryd.prog 152 = some false := by kernel_rfl
theorem sz152 : sizeOf? Tryd.prog 152 = some 1 := by kernel_rfl
theorem z152 : zeroOf? Tryd.prog 152 = some (.int .u64 0) := by kernel_rfl
theorem by152 : bytesOf? Tryd.prog 152 = some 8 := by kernel_rfl
theorem ag154 : aggT Tryd.prog 154 = some false := by kernel_rfl
theorem sz154 : sizeOf? Tryd.prog 154 = some 1 := by kernel_rfl
theorem z154 : zeroOf? Tryd.prog 154 = some (.nilFunc) := by kernel_rfl
theorem ag155 : aggT Tryd.prog 155 = some true := by kernel_rfl
theorem sz155 : sizeOf? Tryd.prog 155 = some 3 := by kernel_rfl
theorem z155 : zeroOf? Tryd.prog 155 = some (.agg #[.string ByteArray.empty, .string ByteArray.empty, .nilIface]) := by kernel_rfl
theorem by155 : bytesOf? Tryd.prog 155 = some 48 := by kernel_rfl
theorem ag156 : aggT Tryd.prog 156 = some true := by kernel_rfl
theorem sz156 : sizeOf? Tryd.prog 156 = some 3 := by kernel_rfl
theorem z156 : zeroOf? Tryd.prog 156 = some (.agg #[.string ByteArray.empty, .string ByteArray.empty, .nilIface]) := by kernel_rfl
theorem by156 : bytesOf? Tryd.prog 156 = some 48 := by kernel_rfl
theorem ag157 : aggT Tryd.prog 157 = some false := by kernel_rfl
theorem sz157 : sizeOf? Tryd.prog 157 = some 1 := by kernel_rfl
theorem z157 : zeroOf? Tryd.prog 157 = some (.nilFunc) := by kernel_rfl
theorem ag158 : aggT Tryd.prog 158 = some true := by kernel_rfl
theorem sz158 : sizeOf? Tryd.prog 158 = some 24 := by kernel_rfl
theorem z158 : zeroOf? Tryd.prog 158 = some (.agg #[.int .u8 0, .int .u8 0, .int .u8 0, .int .u8 0, .int .u8 0, .int .u8 0, .int .u8 0, .int .u8 0, .int .u8 0, .int .u8 0, .int .u8 0, .int .u8 0, .int .u8 0, .int .u8 0, .int .u8 0, .int .u8 0, .int .u8 0, .int .u8 0, .int .u8 0, .int .u8 0, .int .u8 0, .int .u8 0, .int .u8 0, .int .u8 0]) := by kernel_rfl
theorem by158 : bytesOf? Tryd.prog 158 = some 24 := by kernel_rfl
theorem ag159 : aggT Tryd.prog 159 = some false := by kernel_rfl
theorem sz159 : sizeOf? Tryd.prog 159 = some 1 := by kernel_rfl
theorem z159 : zeroOf? Tryd.prog 159 = some (.nilFunc) := by kernel_rfl
theorem ag160 : aggT Tryd.prog 160 = some false := by kernel_rfl
theorem sz160 : sizeOf? Tryd.prog 160 = some 1 := by kernel_rfl
theorem z160 : zeroOf? Tryd.prog 160 = some (.nilFunc) := by kernel_rfl
theorem ag162 : aggT Tryd.prog 162 = some false := by kernel_rfl
theorem sz162 : sizeOf? Tryd.prog 162 = some 1 := by kernel_rfl
theorem z162 : zeroOf? Tryd.prog 162 = some (.nilFunc) := by kernel_rfl
theorem ag163 : aggT Tryd.prog 163 = some false := by kernel_rfl
theorem sz163 : sizeOf? Tryd.prog 163 = some 1 := by kernel_rfl
theorem z163 : zeroOf? Tryd.prog 163 = some (.nilFunc) := by kernel_rfl
theorem ag164 : aggT Tryd.prog 164 = some false := by kernel_rfl
theorem sz164 : sizeOf? Tryd.prog 164 = some 1 := by kernel_rfl
theorem z164 : zeroOf? Tryd.prog 164 = some (.nilFunc) := by kernel_rfl
theorem ag165 : aggT Tryd.prog 165 = some false := by kernel_rfl
theorem sz165 : sizeOf? Tryd.prog 165 = some 1 := by kernel_rfl
theorem z165 : zeroOf? Tryd.prog 165 = some (.pointer none) := by kernel_rfl
theorem by165 : bytesOf? Tryd.prog 165 = some 8 := by kernel_rfl
theorem ag166 : aggT Tryd.prog 166 = some true := by kernel_rfl
theorem sz166 : sizeOf? Tryd.prog 166 = some 1 := by kernel_rfl
theorem z166 : zeroOf? Tryd.prog 166 = some (.agg #[.string ByteArray.empty]) := by kernel_rfl
theorem by166 : bytesOf? Tryd.prog 166 = some 16 := by kernel_rfl
theorem ag167 : aggT Tryd.prog 167 = some true := by kernel_rfl
theorem sz167 : sizeOf? Tryd.prog 167 = some 1 := by kernel_rfl
theorem z167 : zeroOf? Tryd.prog 167 = some (.agg #[.string ByteArray.empty]) := by kernel_rfl
theorem by167 : bytesOf? Tryd.prog 167 = some 16 := by kernel_rfl
theorem ag168 : aggT Tryd.prog 168 = some false := by kernel_rfl
theorem sz168 : sizeOf? Tryd.prog 168 = some 1 := by kernel_rfl
theorem z168 : zeroOf? Tryd.prog 168 = some (.nilFunc) := by kernel_rfl
theorem ag169 : aggT Tryd.prog 169 = some true := by kernel_rfl
theorem sz169 : sizeOf? Tryd.prog 169 = some 20 := by kernel_rfl
theorem z169 : zeroOf? Tryd.prog 169 = some (.agg #[.int .u64 0, .int .u64 0, .int .u64 0, .int .u64 0, .int .u64 0, .int .u64 0, .int .u64 0, .int .u64 0, .int .u64 0, .int .u64 0, .int .u64 0, .int .u64 0, .int .u64 0, .int .u64 0, .int .u64 0, .int .u64 0, .int .u64 0, .int .u64 0, .int .u64 0, .int .u64 0]) := by kernel_rfl
theorem by169 : bytesOf? Tryd.prog 169 = some 160 := by kernel_rfl
theorem ag170 : aggT Tryd.prog 170 = some false := by kernel_rfl
theorem sz170 : sizeOf? Tryd.prog 170 = some 1 := by kernel_rfl
theorem z170 : zeroOf? Tryd.prog 170 = some (.int .u32 0) := by kernel_rfl
theorem by170 : bytesOf? Tryd.prog 170 = some 4 := by kernel_rfl
theorem ag172 : aggT Tryd.prog 172 = some false := by kernel_rfl
theorem sz172 : sizeOf? Tryd.prog 172 = some 1 := by kernel_rfl
theorem z172 : zeroOf? Tryd.prog 172 = some (.nilFunc) := by kernel_rfl
theorem ag174 : aggT Tryd.prog 174 = some true := by kernel_rfl
theorem sz174 : sizeOf? Tryd.prog 174 = some 2 := by kernel_rfl
theorem z174 : zeroOf? Tryd.prog 174 = some (.agg #[.int .u8 0, .int .u8 0]) := by kernel_rfl
theorem by174 : bytesOf? Tryd.prog 174 = some 2 := by kernel_rfl
theorem ag175 : aggT Tryd.prog 175 = some true := by kernel_rfl
theorem sz175 : sizeOf? Tryd.prog 175 = some 2 := by kernel_rfl
theorem z175 : zeroOf? Tryd.prog 175 = some (.agg #[.int .u8 0, .int .u8 0]) := by kernel_rfl
theorem by175 : bytesOf? Tryd.prog 175 = some 2 := by kernel_rfl
theorem ag176 : aggT Tryd.prog 176 = some true := by kernel_rfl
theorem sz176 : sizeOf? Tryd.prog 176 = some 32 := by kernel_rfl
theorem z176 : zeroOf? Tryd.prog 176 = some (.agg #[.int .u8 0, .int .u8 0, .int .u8 0, .int .u8 0, .int .u8 0, .int .u8 0, .int .u8 0, .int .u8 0, .int .u8 0, .int .u8 0, .int .u8 0, .int .u8 0, .int .u8 0, .int .u8 0, .int .u8 0, .int .u8 0, .int .u8 0, .int .u8 0, .int .u8 0, .int .u8 0, .int .u8 0, .int .u8 0, .int .u8 0, .int .u8 0, .int .u8 0, .int .u8 0, .int .u8 0, .int .u8 0, .int .u8 0, .int .u8 0, .int .u8 0, .int .u8 0]) := by kernel_rfl
theorem by176 : bytesOf? Tryd.prog 176 = some 32 := by kernel_rfl
theorem ag178 : aggT Tryd.prog 178 = some false := by kernel_rfl
theorem sz178 : sizeOf? Tryd.prog 178 = some 1 := by kernel_rfl
theorem z178 : zeroOf? Tryd.prog 178 = some (.nilFunc) := by kernel_rfl
theorem ag179 : aggT Tryd.prog 179 = some false := by kernel_rfl
theorem sz179 : sizeOf? Tryd.prog 179 = some 1 := by kernel_rfl
theorem z179 : zeroOf? Tryd.prog 179 = some (.nilFunc) := by kernel_rfl
theorem ag180 : aggT Tryd.prog 180 = some true := by kernel_rfl
theorem sz180 : sizeOf? Tryd.prog 180 = some 32 := by kernel_rfl
theorem z180 : zeroOf? Tryd.prog 180 = some (.agg #[.int .u8 0, .int .u8 0, .int .u8 0, .int .u8 0, .int .u8 0, .int .u8 0, .int .u8 0, .int .u8 0, .int .u8 0, .int .u8 0, .int .u8 0, .int .u8 0, .int .u8 0, .int .u8 0, .int .u8 0, .int .u8 0, .int .u8 0, .int .u8 0, .int .u8 0, .int .u8 0, .int .u8 0, .int .u8 0, .int .u8 0, .int .u8 0, .int .u8 0, .int .u8 0, .int .u8 0, .int .u8 0, .int .u8 0, .int .u8 0, .int .u8 0, .int .u8 0]) := by kernel_rfl
theorem by180 : bytesOf? Tryd.prog 180 = some 32 := by kernel_rfl
theorem ag181 : aggT Tryd.prog 181 = some true := by kernel_rfl
theorem sz181 : sizeOf? Tryd.prog 181 = some 64 := by kernel_rfl
theorem z181 : zeroOf? Tryd.prog 181 = some (.agg #[.int .u8 0, .int .u8 0, .int .u8 0, .int .u8 0, .int .u8 0, .int .u8 0, .int .u8 0, .int .u8 0, .int .u8 0, .int .u8 0, .int .u8 0, .int .u8 0, .int .u8 0, .int .u8 0, .int .u8 0, .int .u8 0, .int .u8 0, .int .u8 0, .int .u8 0, .int .u8 0, .int .u8 0, .int .u8 0, .int .u8 0, .int .u8 0, .int .u8 0, .int .u8 0, .int .u8 0, .int .u8 0, .int .u8 0, .int .u8 0, .int .u8 0, .int .u8 0, .int .u8 0, .int .u8 0, .int .u8 0, .int .u8 0, .int .u8 0, .int .u8 0, .int .u8 0, .int .u8 0, .int .u8 0, .int .u8 0, .int .u8 0, .int .u8 0, .int .u8 0, .int .u8 0, .int .u8 0, .int .u8 0, .int .u8 0, .int .u8 0, .int .u8 0, .int .u8 0, .int .u8 0, .int .u8 0, .int .u8 0, .int .u8 0, .int .u8 0, .int .u8 0, .int .u8 0, .int .u8 0, .int .u8 0, .int .u8 0, .int .u8 0, .int .u8 0]) := by kernel_rfl
theorem by181 : bytesOf? Tryd.prog 181 = some 64 := by kernel_rfl
theorem ag184 : aggT Tryd.prog 184 = some true := by kernel_rfl
theorem sz184 : sizeOf? Tryd.prog 184 = some 0 := by kernel_rfl
theorem z184 : zeroOf? Tryd.prog 184 = some (.agg #[]) := by kernel_rfl
theorem by184 : bytesOf? Tryd.prog 184 = some 0 := by kernel_rfl
theorem ag185 : aggT Tryd.prog 185 = some true := by kernel_rfl
theorem sz185 : sizeOf? Tryd.prog 185 = some 0 := by kernel_rfl
theorem z185 : zeroOf? Tryd.prog 185 = some (.agg #[]) := by kernel_rfl
theorem by185 : bytesOf? Tryd.prog 185 = some 0 := by kernel_rfl
theorem ag187 : aggT Tryd.prog 187 = some false := by kernel_rfl
theorem sz187 : sizeOf? Tryd.prog 187 = some 1 := by kernel_rfl
theorem z187 : zeroOf? Tryd.prog 187 = some (.nilFunc) := by kernel_rfl
theorem ag190 : aggT Tryd.prog 190 = some false := by kernel_rfl
theorem sz190 : sizeOf? Tryd.prog 190 = some 1 := by kernel_rfl
theorem z190 : zeroOf? Tryd.prog 190 = some (.nilFunc) := by kernel_rfl
-- 1: func()
theorem rdo1 {cs : List PV} {off : Nat} : readCells Tryd.prog 1 cs off = cs[off]? := rd_one ag1
-- 2: int64
theorem rdo2 {cs : List PV} {off : Nat} : readCells Tryd.prog 2 cs off = cs[off]? := rd_one ag2
theorem alc2 {dr : Bool} {st : PS} {id tk : Nat} {K : PS → Prop} {d : Option Tmp} {ty : TypeId} {pos : String} {af : Array Edge} {g : Option (Nat × Bool)} : stepN dr Tryd.prog ⟨d, .alloc 2, ty, pos, af, g⟩ st id tk K = K (PS.put { st with heap := (id, .box 2 [.val (.int .i64 0)]) :: st.heap } d (.ptr id 0)) := s_allocC z2 rfl rfl
theorem mki2 {dr : Bool} {st : PS} {id tk : Nat} {K : PS → Prop} {d : Option Tmp} {ty : TypeId} {pos : String} {af : Array Edge} {g : Option (Nat × Bool)} {x : Operand} : stepN dr Tryd.prog ⟨d, .makeInterface 2 x, ty, pos, af, g⟩ st id tk K = bindO (st.ev x) fun p => K (st.put d (.iface 2 p)) := s_makeIface Tryd.underlying2 rfl
-- 3: int
theorem rdo3 {cs : List PV} {off : Nat} : readCells Tryd.prog 3 cs off = cs[off]? := rd_one ag3
theorem alc3 {dr : Bool} {st : PS} {id tk : Nat} {K : PS → Prop} {d : Option Tmp} {ty : TypeId} {pos : String} {af : Array Edge} {g : Option (Nat × Bool)} : stepN dr Tryd.prog ⟨d, .alloc 3, ty, pos, af, g⟩ st id tk K = K (PS.put { st with heap := (id, .box 3 [.val (.int .i64 0)]) :: st.heap } d (.ptr id 0)) := s_allocC z3 rfl rfl
theorem mki3 {dr : Bool} {st : PS} {id tk : Nat} {K : PS → Prop} {d : Option Tmp} {ty : TypeId} {pos : String} {af : Array Edge} {g : Option (Nat × Bool)} {x : Operand} : stepN dr Tryd.prog ⟨d, .makeInterface 3 x, ty, pos, af, g⟩ st id tk K = bindO (st.ev x) fun p => K (st.put d (.iface 3 p)) := s_makeIface Tryd.underlying3 rfl
-- 4: bool
theorem rdo4 {cs : List PV} {off : Nat} : readCells Tryd.prog 4 cs off = cs[off]? := rd_one ag4
theorem alc4 {dr : Bool} {st : PS} {id tk : Nat} {K : PS → Prop} {d : Option Tmp} {ty : TypeId} {pos : String} {af : Array Edge} {g : Option (Nat × Bool)} : stepN dr Tryd.prog ⟨d, .alloc 4, ty, pos, af, g⟩ st id tk K = K (PS.put { st with heap := (id, .box 4 [.val (.bool false)]) :: st.heap } d (.ptr id 0)) := s_allocC z4 rfl rfl
-- 5: uint8
theorem rdo5 {cs : List PV} {off : Nat} : readCells Tryd.prog 5 cs off = cs[off]? := rd_one ag5
theorem alc5 {dr : Bool} {st : PS} {id tk : Nat} {K : PS → Prop} {d : Option Tmp} {ty : TypeId} {pos : String} {af : Array Edge} {g : Option (Nat × Bool)} : stepN dr Tryd.prog ⟨d, .alloc 5, ty, pos, af, g⟩ st id tk K = K (PS.put { st with heap := (id, .box 5 [.val (.int .u8 0)]) :: st.heap } d (.ptr id 0)) := s_allocC z5 rfl rfl
theorem mki5 {dr : Bool} {st : PS} {id tk : Nat} {K : PS → Prop} {d : Option Tmp} {ty : TypeId} {pos : String} {af : Array Edge} {g : Option (Nat × Bool)} {x : Operand} : stepN dr Tryd.prog ⟨d, .makeInterface 5 x, ty, pos, af, g⟩ st id tk K = bindO (st.ev x) fun p => K (st.put d (.iface 5 p)) := s_makeIface Tryd.underlying5 rfl
-- 9: string
theorem rdo9 {cs : List PV} {off : Nat} : readCells Tryd.prog 9 cs off = cs[off]? := rd_one ag9
theorem alc9 {dr : Bool} {st : PS} {id tk : Nat} {K : PS → Prop} {d : Option Tmp} {ty : TypeId} {pos : String} {af : Array Edge} {g : Option (Nat × Bool)} : stepN dr Tryd.prog ⟨d, .alloc 9, ty, pos, af, g⟩ st id tk K = K (PS.put { st with heap := (id, .box 9 [.val (.string ByteArray.empty)]) :: st.heap } d (.ptr id 0)) := s_allocC z9 rfl rfl
theorem mki9 {dr : Bool} {st : PS} {id tk : Nat} {K : PS → Prop} {d : Option Tmp} {ty : TypeId} {pos : String} {af : Array Edge} {g : Option (Nat × Bool)} {x : Operand} : stepN dr Tryd.prog ⟨d, .makeInterface 9 x, ty, pos, af, g⟩ st id tk K = bindO (st.ev x) fun p => K (st.put d (.iface 9 p)) := s_makeIface Tryd.underlying9 rfl
theorem rng9 {dr : Bool} {st : PS} {id tk : Nat} {K : PS → Prop} {d : Option Tmp} {ty : TypeId} {pos : String} {af : Array Edge} {g : Option (Nat × Bool)} {x : Operand} : stepN dr Tryd.prog ⟨d, .range 9 x, ty, pos, af, g⟩ st id tk K = bindO (st.ev x) (rngP id d st K) := s_range Tryd.underlying9
theorem lns9 {st : PS} {x : Operand} {K : PV → Prop} : lenK Tryd.prog st 9 x K = bindO (st.ev x) (lenS K) := len_string Tryd.underlying9
theorem ixs9 {st : PS} {x y : Operand} {K : PV → Prop} : indexK Tryd.prog st 9 x y K = bindO (st.ev x) fun p => bindO (st.ev y) fun q => intK q fun i => ixS i K p := ix_string Tryd.underlying9
theorem sls9 {st : PS} {x : Operand} {lo hi : Option Operand} {K : PV → Prop} : sliceK Tryd.prog st 9 x lo hi K = bindO (st.ev x) (slcS st lo hi K) := slc_string Tryd.underlying9
-- 12: uintptr
theorem rdo12 {cs : List PV} {off : Nat} : readCells Tryd.prog 12 cs off = cs[off]? := rd_one ag12
theorem alc12 {dr : Bool} {st : PS} {id tk : Nat} {K : PS → Prop} {d : Option Tmp} {ty : TypeId} {pos : String} {af : Array Edge} {g : Option (Nat × Bool)} : stepN dr Tryd.prog ⟨d, .alloc 12, ty, pos, af, g⟩ st id tk K = K (PS.put { st with heap := (id, .box 12 [.val (.int .u64 0)]) :: st.heap } d (.ptr id 0)) := s_allocC z12 rfl rfl
theorem mki12 {dr : Bool} {st : PS} {id tk : Nat} {K : PS → Prop} {d : Option Tmp} {ty : TypeId} {pos : String} {af : Array Edge} {g : Option (Nat × Bool)} {x : Operand} : stepN dr Tryd.prog ⟨d, .makeInterface 12 x, ty, pos, af, g⟩ st id tk K = bindO (st.ev x) fun p => K (st.put d (.iface 12 p)) := s_makeIface Tryd.underlying12 rfl
-- 13: struct { msg string; addr uintptr }
theorem rda13 {cs : List PV} {off : Nat} : readCells Tryd.prog 13 cs off = if off + 2 ≤ cs.length then some (.agg ((cs.drop off).take 2)) else none := rd_agg ag13 sz13
theorem alc13 {dr : Bool} {st : PS} {id tk : Nat} {K : PS → Prop} {d : Option Tmp} {ty : TypeId} {pos : String} {af : Array Edge} {g : Option (Nat × Bool)} : stepN dr Tryd.prog ⟨d, .alloc 13, ty, pos, af, g⟩ st id tk K = K (PS.put { st with heap := (id, .box 13 [.val (.string ByteArray.empty), .val (.int .u64 0)]) :: st.heap } d (.ptr id 0)) := s_allocC z13 rfl rfl
theorem mki13 {dr : Bool} {st : PS} {id tk : Nat} {K : PS → Prop} {d : Option Tmp} {ty : TypeId} {pos : String} {af : Array Edge} {g : Option (Nat × Bool)} {x : Operand} : stepN dr Tryd.prog ⟨d, .makeInterface 13 x, ty, pos, af, g⟩ st id tk K = bindO (st.ev x) fun p => K (st.put d (.iface 13 p)) := s_makeIface Tryd.underlying13 rfl
theorem fa13_0 {st : PS} {x : Operand} {K : PV → Prop} : fieldAddrK Tryd.prog st 13 x 0 K = bindO (st.ev x) (fldP 0 K) :=
  fld_ (P := Tryd.prog) (st := st) (x := x) (K := K) (f := 0) Tryd.underlying13 rfl sz9 (by decide)
theorem fi13_0 {st : PS} {x : Operand} {K : PV → Prop} : fieldK Tryd.prog st 13 x 0 K = bindO (st.ev x) (fieldP Tryd.prog 9 0 K) :=
  field_ (P := Tryd.prog) (st := st) (x := x) (K := K) (f := 0) Tryd.underlying13 rfl
theorem fa13_1 {st : PS} {x : Operand} {K : PV → Prop} : fieldAddrK Tryd.prog st 13 x 1 K = bindO (st.ev x) (fldP 1 K) :=
  fld_ (P := Tryd.prog) (st := st) (x := x) (K := K) (f := 1) Tryd.underlying13 rfl sz12 (by decide)
theorem fi13_1 {st : PS} {x : Operand} {K : PV → Prop} : fieldK Tryd.prog st 13 x 1 K = bindO (st.ev x) (fieldP Tryd.prog 12 1 K) :=
  field_ (P := Tryd.prog) (st := st) (x := x) (K := K) (f := 1) Tryd.underlying13 rfl
theorem bld13 {st : PS} {l : List (Nat × Operand)} {K : PV → Prop} : buildK Tryd.prog st 13 l K = bindO (evParts st l) fun ps => (ps.all fun e => match e.2 with | .tup _ => false | _ => true) = true ∧ bindO (fillP (fun i => [(0, 1), (1, 1)][i]?) [.val (.string ByteArray.empty), .val (.int .u64 0)] ps) fun cs => K (.agg cs) :=
  buildC Tryd.underlying13 z13 (by kernel_rfl) rfl rfl
-- 20: interface {}
theorem rdo20 {cs : List PV} {off : Nat} : readCells Tryd.prog 20 cs off = cs[off]? := rd_one ag20
theorem alc20 {dr : Bool} {st : PS} {id tk : Nat} {K : PS → Prop} {d : Option Tmp} {ty : TypeId} {pos : String} {af : Array Edge} {g : Option (Nat × Bool)} : stepN dr Tryd.prog ⟨d, .alloc 20, ty, pos, af, g⟩ st id tk K = K (PS.put { st with heap := (id, .box 20 [.val (.nilIface)]) :: st.heap } d (.ptr id 0)) := s_allocC z20 rfl rfl
theorem ifx20 : (∃ ms, Tryd.prog.underlying 20 = some (.interface ms)) = True := eq_true ⟨_, Tryd.underlying20⟩
-- 21: int32
theorem rdo21 {cs : List PV} {off : Nat} : readCells Tryd.prog 21 cs off = cs[off]? := rd_one ag21
theorem alc21 {dr : Bool} {st : PS} {id tk : Nat} {K : PS → Prop} {d : Option Tmp} {ty : TypeId} {pos : String} {af : Array Edge} {g : Option (Nat × Bool)} : stepN dr Tryd.prog ⟨d, .alloc 21, ty, pos, af, g⟩ st id tk K = K (PS.put { st with heap := (id, .box 21 [.val (.int .i32 0)]) :: st.heap } d (.ptr id 0)) := s_allocC z21 rfl rfl
theorem mki21 {dr : Bool} {st : PS} {id tk : Nat} {K : PS → Prop} {d : Option Tmp} {ty : TypeId} {pos : String} {af : Array Edge} {g : Option (Nat × Bool)} {x : Operand} : stepN dr Tryd.prog ⟨d, .makeInterface 21 x, ty, pos, af, g⟩ st id tk K = bindO (st.ev x) fun p => K (st.put d (.iface 21 p)) := s_makeIface Tryd.underlying21 rfl
-- 22: []chevallaw03.Node
theorem rdo22 {cs : List PV} {off : Nat} : readCells Tryd.prog 22 cs off = cs[off]? := rd_one ag22
theorem alc22 {dr : Bool} {st : PS} {id tk : Nat} {K : PS → Prop} {d : Option Tmp} {ty : TypeId} {pos : String} {af : Array Edge} {g : Option (Nat × Bool)} : stepN dr Tryd.prog ⟨d, .alloc 22, ty, pos, af, g⟩ st id tk K = K (PS.put { st with heap := (id, .box 22 [.val (.slice none 0 0)]) :: st.heap } d (.ptr id 0)) := s_allocC z22 rfl rfl
theorem lns22 {st : PS} {x : Operand} {K : PV → Prop} : lenK Tryd.prog st 22 x K = bindO (st.ev x) (lenP K) := len_slice Tryd.underlying22
theorem ixs22 {st : PS} {x y : Operand} {K : PV → Prop} : indexAddrK Tryd.prog st 22 x y K = bindO (st.ev x) fun p => bindO (st.ev y) fun q => intK q fun i => ixP 5 i K p := ix_slice Tryd.underlying22 sz73
theorem sls22 {st : PS} {x : Operand} {lo hi : Option Operand} {K : PV → Prop} : sliceK Tryd.prog st 22 x lo hi K = bindO (st.ev x) (slcP 5 st lo hi K) := slc_slice Tryd.underlying22 sz73
theorem app22 {st : PS} {tk : Nat} {x y : Operand} {K : Delta → Prop} : appendK Tryd.prog st tk ⟨.builtin .append, #[x, y], #[22, 22]⟩ K = bindO (st.ev x) fun d => bindO (st.ev y) fun s => bindO (srcXs st 5 s) fun ys0 => bindO (fzLL ys0) fun ys => (∀ y ∈ ys, y.length = 5) ∧ appT 73 5 80 st tk K d ys :=
  append_t Tryd.underlying22 sz73 by73 z73 rfl (by decide)
theorem bs22 {dr : Bool} {st : PS} {id tk n : Nat} {K : PS → Prop} {d : Option Tmp} {ty : TypeId} {pos : String} {af : Array Edge} {g : Option (Nat × Bool)} {l : List (Nat × Operand)} :
    stepN dr Tryd.prog ⟨d, .buildSlice 22 n l.toArray, ty, pos, af, g⟩ st id tk K = bindO (evParts st l) fun ps => bindO (valsOf ps 0) fun xs => (∀ x ∈ xs, x.length = 5) ∧ xs.length = n ∧ n * 5 ≤ 16777216 ∧ K (PS.put { st with toks := upd st.toks tk ⟨73, 5, n⟩ } d (.row tk xs)) :=
  s_buildSlice Tryd.underlying22 sz73 z73 (by decide) rfl
theorem mks22 {dr : Bool} {st : PS} {id tk : Nat} {K : PS → Prop} {d : Option Tmp} {ty : TypeId} {pos : String} {af : Array Edge} {g : Option (Nat × Bool)} {l c : Operand} : stepN dr Tryd.prog ⟨d, .makeSlice 22 l c, ty, pos, af, g⟩ st id tk K = bindO (st.ev l) fun p => bindO (st.ev c) fun q => intK p fun n => intK q fun m => n = m ∧ 0 ≤ n ∧ n ≤ 9223372036854775807 ∧ 80 * n ≤ 281474976710656 ∧
    K (PS.put { st with heap := (id, .box 73 ((List.range (n.toNat * 5)).map fun i => [.val (.int .u8 0), .val (.int .i64 0), .val (.string ByteArray.empty), .val (.slice none 0 0), .val (.slice none 0 0)].getD (i % 5) (.val .nilIface))) :: st.heap } d (.ms id 0 n.toNat n.toNat)) :=
  s_makeSlice Tryd.underlying22 sz73 by73 z73 rfl rfl (by decide) rfl
-- 23: []string
theorem rdo23 {cs : List PV} {off : Nat} : readCells Tryd.prog 23 cs off = cs[off]? := rd_one ag23
theorem alc23 {dr : Bool} {st : PS} {id tk : Nat} {K : PS → Prop} {d : Option Tmp} {ty : TypeId} {pos : String} {af : Array Edge} {g : Option (Nat × Bool)} : stepN dr Tryd.prog ⟨d, .alloc 23, ty, pos, af, g⟩ st id tk K = K (PS.put { st with heap := (id, .box 23 [.val (.slice none 0 0)]) :: st.heap } d (.ptr id 0)) := s_allocC z23 rfl rfl
theorem lns23 {st : PS} {x : Operand} {K : PV → Prop} : lenK Tryd.prog st 23 x K = bindO (st.ev x) (lenP K) := len_slice Tryd.underlying23
theorem ixs23 {st : PS} {x y : Operand} {K : PV → Prop} : indexAddrK Tryd.prog st 23 x y K = bindO (st.ev x) fun p => bindO (st.ev y) fun q => intK q fun i => ixP 1 i K p := ix_slice Tryd.underlying23 sz9
theorem sls23 {st : PS} {x : Operand} {lo hi : Option Operand} {K : PV → Prop} : sliceK Tryd.prog st 23 x lo hi K = bindO (st.ev x) (slcP 1 st lo hi K) := slc_slice Tryd.underlying23 sz9
theorem app23 {st : PS} {tk : Nat} {x y : Operand} {K : Delta → Prop} : appendK Tryd.prog st tk ⟨.builtin .append, #[x, y], #[23, 23]⟩ K = bindO (st.ev x) fun d => bindO (st.ev y) fun s => bindO (srcXs st 1 s) fun ys0 => bindO (fzLL ys0) fun ys => (∀ y ∈ ys, y.length = 1) ∧ appT 9 1 16 st tk K d ys :=
  append_t Tryd.underlying23 sz9 by9 z9 rfl (by decide)
theorem bs23 {dr : Bool} {st : PS} {id tk n : Nat} {K : PS → Prop} {d : Option Tmp} {ty : TypeId} {pos : String} {af : Array Edge} {g : Option (Nat × Bool)} {l : List (Nat × Operand)} :
    stepN dr Tryd.prog ⟨d, .buildSlice 23 n l.toArray, ty, pos, af, g⟩ st id tk K = bindO (evParts st l) fun ps => bindO (valsOf ps 0) fun xs => (∀ x ∈ xs, x.length = 1) ∧ xs.length = n ∧ n * 1 ≤ 16777216 ∧ K (PS.put { st with toks := upd st.toks tk ⟨9, 1, n⟩ } d (.row tk xs)) :=
  s_buildSlice Tryd.underlying23 sz9 z9 (by decide) rfl
theorem mks23 {dr : Bool} {st : PS} {id tk : Nat} {K : PS → Prop} {d : Option Tmp} {ty : TypeId} {pos : String} {af : Array Edge} {g : Option (Nat × Bool)} {l c : Operand} : stepN dr Tryd.prog ⟨d, .makeSlice 23 l c, ty, pos, af, g⟩ st id tk K = bindO (st.ev l) fun p => bindO (st.ev c) fun q => intK p fun n => intK q fun m => n = m ∧ 0 ≤ n ∧ n ≤ 9223372036854775807 ∧ 16 * n ≤ 281474976710656 ∧
    K (PS.put { st with heap := (id, .box 9 ((List.range (n.toNat * 1)).map fun i => [.val (.string ByteArray.empty)].getD (i % 1) (.val .nilIface))) :: st.heap } d (.ms id 0 n.toNat n.toNat)) :=
  s_makeSlice Tryd.underlying23 sz9 by9 z9 rfl rfl (by decide) rfl
-- 24: func() bool
theorem rdo24 {cs : List PV} {off : Nat} : readCells Tryd.prog 24 cs off = cs[off]? := rd_one ag24
-- 25: func([]string) bool
theorem rdo25 {cs : List PV} {off : Nat} : readCells Tryd.prog 25 cs off = cs[off]? := rd_one ag25
-- 26: []chevalref03.V
theorem rdo26 {cs : List PV} {off : Nat} : readCells Tryd.prog 26 cs off = cs[off]? := rd_one ag26
theorem alc26 {dr : Bool} {st : PS} {id tk : Nat} {K : PS → Prop} {d : Option Tmp} {ty : TypeId} {pos : String} {af : Array Edge} {g : Option (Nat × Bool)} : stepN dr Tryd.prog ⟨d, .alloc 26, ty, pos, af, g⟩ st id tk K = K (PS.put { st with heap := (id, .box 26 [.val (.slice none 0 0)]) :: st.heap } d (.ptr id 0)) := s_allocC z26 rfl rfl
theorem lns26 {st : PS} {x : Operand} {K : PV → Prop} : lenK Tryd.prog st 26 x K = bindO (st.ev x) (lenP K) := len_slice Tryd.underlying26
theorem ixs26 {st : PS} {x y : Operand} {K : PV → Prop} : indexAddrK Tryd.prog st 26 x y K = bindO (st.ev x) fun p => bindO (st.ev y) fun q => intK q fun i => ixP 6 i K p := ix_slice Tryd.underlying26 sz28
theorem sls26 {st : PS} {x : Operand} {lo hi : Option Operand} {K : PV → Prop} : sliceK Tryd.prog st 26 x lo hi K = bindO (st.ev x) (slcP 6 st lo hi K) := slc_slice Tryd.underlying26 sz28
theorem app26 {st : PS} {tk : Nat} {x y : Operand} {K : Delta → Prop} : appendK Tryd.prog st tk ⟨.builtin .append, #[x, y], #[26, 26]⟩ K = bindO (st.ev x) fun d => bindO (st.ev y) fun s => bindO (srcXs st 6 s) fun ys0 => bindO (fzLL ys0) fun ys => (∀ y ∈ ys, y.length = 6) ∧ appT 28 6 88 st tk K d ys :=
  append_t Tryd.underlying26 sz28 by28 z28 rfl (by decide)
theorem bs26 {dr : Bool} {st : PS} {id tk n : Nat} {K : PS → Prop} {d : Option Tmp} {ty : TypeId} {pos : String} {af : Array Edge} {g : Option (Nat × Bool)} {l : List (Nat × Operand)} :
    stepN dr Tryd.prog ⟨d, .buildSlice 26 n l.toArray, ty, pos, af, g⟩ st id tk K = bindO (evParts st l) fun ps => bindO (valsOf ps 0) fun xs => (∀ x ∈ xs, x.length = 6) ∧ xs.length = n ∧ n * 6 ≤ 16777216 ∧ K (PS.put { st with toks := upd st.toks tk ⟨28, 6, n⟩ } d (.row tk xs)) :=
  s_buildSlice Tryd.underlying26 sz28 z28 (by decide) rfl
theorem mks26 {dr : Bool} {st : PS} {id tk : Nat} {K : PS → Prop} {d : Option Tmp} {ty : TypeId} {pos : String} {af : Array Edge} {g : Option (Nat × Bool)} {l c : Operand} : stepN dr Tryd.prog ⟨d, .makeSlice 26 l c, ty, pos, af, g⟩ st id tk K = bindO (st.ev l) fun p => bindO (st.ev c) fun q => intK p fun n => intK q fun m => n = m ∧ 0 ≤ n ∧ n ≤ 9223372036854775807 ∧ 88 * n ≤ 281474976710656 ∧
    K (PS.put { st with heap := (id, .box 28 ((List.range (n.toNat * 6)).map fun i => [.val (.int .i64 0), .val (.bool false), .val (.int .i64 0), .val (.string ByteArray.empty), .val (.slice none 0 0), .val (.slice none 0 0)].getD (i % 6) (.val .nilIface))) :: st.heap } d (.ms id 0 n.toNat n.toNat)) :=
  s_makeSlice Tryd.underlying26 sz28 by28 z28 rfl rfl (by decide) rfl
-- 27: struct { Kind int; Bool bool; Int int64; Str string; Items []chevalref03.V; Keys []string }
theorem rda27 {cs : List PV} {off : Nat} : readCells Tryd.prog 27 cs off = if off + 6 ≤ cs.length then some (.agg ((cs.drop off).take 6)) else none := rd_agg ag27 sz27
theorem alc27 {dr : Bool} {st : PS} {id tk : Nat} {K : PS → Prop} {d : Option Tmp} {ty : TypeId} {pos : String} {af : Array Edge} {g : Option (Nat × Bool)} : stepN dr Tryd.prog ⟨d, .alloc 27, ty, pos, af, g⟩ st id tk K = K (PS.put { st with heap := (id, .box 27 [.val (.int .i64 0), .val (.bool false), .val (.int .i64 0), .val (.string ByteArray.empty), .val (.slice none 0 0), .val (.slice none 0 0)]) :: st.heap } d (.ptr id 0)) := s_allocC z27 rfl rfl
theorem mki27 {dr : Bool} {st : PS} {id tk : Nat} {K : PS → Prop} {d : Option Tmp} {ty : TypeId} {pos : String} {af : Array Edge} {g : Option (Nat × Bool)} {x : Operand} : stepN dr Tryd.prog ⟨d, .makeInterface 27 x, ty, pos, af, g⟩ st id tk K = bindO (st.ev x) fun p => K (st.put d (.iface 27 p)) := s_makeIface Tryd.underlying27 rfl
theorem fa27_0 {st : PS} {x : Operand} {K : PV → Prop} : fieldAddrK Tryd.prog st 27 x 0 K = bindO (st.ev x) (fldP 0 K) :=
  fld_ (P := Tryd.prog) (st := st) (x := x) (K := K) (f := 0) Tryd.underlying27 rfl sz3 (by decide)
theorem fi27_0 {st : PS} {x : Operand} {K : PV → Prop} : fieldK Tryd.prog st 27 x 0 K = bindO (st.ev x) (fieldP Tryd.prog 3 0 K) :=
  field_ (P := Tryd.prog) (st := st) (x := x) (K := K) (f := 0) Tryd.underlying27 rfl
theorem fa27_1 {st : PS} {x : Operand} {K : PV → Prop} : fieldAddrK Tryd.prog st 27 x 1 K = bindO (st.ev x) (fldP 1 K) :=
  fld_ (P := Tryd.prog) (st := st) (x := x) (K := K) (f := 1) Tryd.underlying27 rfl sz4 (by decide)
theorem fi27_1 {st : PS} {x : Operand} {K : PV → Prop} : fieldK Tryd.prog st 27 x 1 K = bindO (st.ev x) (fieldP Tryd.prog 4 1 K) :=
  field_ (P := Tryd.prog) (st := st) (x := x) (K := K) (f := 1) Tryd.underlying27 rfl
theorem fa27_2 {st : PS} {x : Operand} {K : PV → Prop} : fieldAddrK Tryd.prog st 27 x 2 K = bindO (st.ev x) (fldP 2 K) :=
  fld_ (P := Tryd.prog) (st := st) (x := x) (K := K) (f := 2) Tryd.underlying27 rfl sz2 (by decide)
theorem fi27_2 {st : PS} {x : Operand} {K : PV → Prop} : fieldK Tryd.prog st 27 x 2 K = bindO (st.ev x) (fieldP Tryd.prog 2 2 K) :=
  field_ (P := Tryd.prog) (st := st) (x := x) (K := K) (f := 2) Tryd.underlying27 rfl
theorem fa27_3 {st : PS} {x : Operand} {K : PV → Prop} : fieldAddrK Tryd.prog st 27 x 3 K = bindO (st.ev x) (fldP 3 K) :=
  fld_ (P := Tryd.prog) (st := st) (x := x) (K := K) (f := 3) Tryd.underlying27 rfl sz9 (by decide)
theorem fi27_3 {st : PS} {x : Operand} {K : PV → Prop} : fieldK Tryd.prog st 27 x 3 K = bindO (st.ev x) (fieldP Tryd.prog 9 3 K) :=
  field_ (P := Tryd.prog) (st := st) (x := x) (K := K) (f := 3) Tryd.underlying27 rfl
theorem fa27_4 {st : PS} {x : Operand} {K : PV → Prop} : fieldAddrK Tryd.prog st 27 x 4 K = bindO (st.ev x) (fldP 4 K) :=
  fld_ (P := Tryd.prog) (st := st) (x := x) (K := K) (f := 4) Tryd.underlying27 rfl sz26 (by decide)
theorem fi27_4 {st : PS} {x : Operand} {K : PV → Prop} : fieldK Tryd.prog st 27 x 4 K = bindO (st.ev x) (fieldP Tryd.prog 26 4 K) :=
  field_ (P := Tryd.prog) (st := st) (x := x) (K := K) (f := 4) Tryd.underlying27 rfl
theorem fa27_5 {st : PS} {x : Operand} {K : PV → Prop} : fieldAddrK Tryd.prog st 27 x 5 K = bindO (st.ev x) (fldP 5 K) :=
  fld_ (P := Tryd.prog) (st := st) (x := x) (K := K) (f := 5) Tryd.underlying27 rfl sz23 (by decide)
theorem fi27_5 {st : PS} {x : Operand} {K : PV → Prop} : fieldK Tryd.prog st 27 x 5 K = bindO (st.ev x) (fieldP Tryd.prog 23 5 K) :=
  field_ (P := Tryd.prog) (st := st) (x := x) (K := K) (f := 5) Tryd.underlying27 rfl
theorem bld27 {st : PS} {l : List (Nat × Operand)} {K : PV → Prop} : buildK Tryd.prog st 27 l K = bindO (evParts st l) fun ps => (ps.all fun e => match e.2 with | .tup _ => false | _ => true) = true ∧ bindO (fillP (fun i => [(0, 1), (1, 1), (2, 1), (3, 1), (4, 1), (5, 1)][i]?) [.val (.int .i64 0), .val (.bool false), .val (.int .i64 0), .val (.string ByteArray.empty), .val (.slice none 0 0), .val (.slice none 0 0)] ps) fun cs => K (.agg cs) :=
  buildC Tryd.underlying27 z27 (by kernel_rfl) rfl rfl
-- 28: chevalref03.V
theorem rda28 {cs : List PV} {off : Nat} : readCells Tryd.prog 28 cs off = if off + 6 ≤ cs.length then some (.agg ((cs.drop off).take 6)) else none := rd_agg ag28 sz28
theorem alc28 {dr : Bool} {st : PS} {id tk : Nat} {K : PS → Prop} {d : Option Tmp} {ty : TypeId} {pos : String} {af : Array Edge} {g : Option (Nat × Bool)} : stepN dr Tryd.prog ⟨d, .alloc 28, ty, pos, af, g⟩ st id tk K = K (PS.put { st with heap := (id, .box 28 [.val (.int .i64 0), .val (.bool false), .val (.int .i64 0), .val (.string ByteArray.empty), .val (.slice none 0 0), .val (.slice none 0 0)]) :: st.heap } d (.ptr id 0)) := s_allocC z28 rfl rfl
theorem mki28 {dr : Bool} {st : PS} {id tk : Nat} {K : PS → Prop} {d : Option Tmp} {ty : TypeId} {pos : String} {af : Array Edge} {g : Option (Nat × Bool)} {x : Operand} : stepN dr Tryd.prog ⟨d, .makeInterface 28 x, ty, pos, af, g⟩ st id tk K = bindO (st.ev x) fun p => K (st.put d (.iface 28 p)) := s_makeIface Tryd.underlying28 rfl
theorem fa28_0 {st : PS} {x : Operand} {K : PV → Prop} : fieldAddrK Tryd.prog st 28 x 0 K = bindO (st.ev x) (fldP 0 K) :=
  fld_ (P := Tryd.prog) (st := st) (x := x) (K := K) (f := 0) Tryd.underlying28 rfl sz3 (by decide)
theorem fi28_0 {st : PS} {x : Operand} {K : PV → Prop} : fieldK Tryd.prog st 28 x 0 K = bindO (st.ev x) (fieldP Tryd.prog 3 0 K) :=
  field_ (P := Tryd.prog) (st := st) (x := x) (K := K) (f := 0) Tryd.underlying28 rfl
theorem fa28_1 {st : PS} {x : Operand} {K : PV → Prop} : fieldAddrK Tryd.prog st 28 x 1 K = bindO (st.ev x) (fldP 1 K) :=
  fld_ (P := Tryd.prog) (st := st) (x := x) (K := K) (f := 1) Tryd.underlying28 rfl sz4 (by decide)
theorem fi28_1 {st : PS} {x : Operand} {K : PV → Prop} : fieldK Tryd.prog st 28 x 1 K = bindO (st.ev x) (fieldP Tryd.prog 4 1 K) :=
  field_ (P := Tryd.prog) (st := st) (x := x) (K := K) (f := 1) Tryd.underlying28 rfl
theorem fa28_2 {st : PS} {x : Operand} {K : PV → Prop} : fieldAddrK Tryd.prog st 28 x 2 K = bindO (st.ev x) (fldP 2 K) :=
  fld_ (P := Tryd.prog) (st := st) (x := x) (K := K) (f := 2) Tryd.underlying28 rfl sz2 (by decide)
theorem fi28_2 {st : PS} {x : Operand} {K : PV → Prop} : fieldK Tryd.prog st 28 x 2 K = bindO (st.ev x) (fieldP Tryd.prog 2 2 K) :=
  field_ (P := Tryd.prog) (st := st) (x := x) (K := K) (f := 2) Tryd.underlying28 rfl
theorem fa28_3 {st : PS} {x : Operand} {K : PV → Prop} : fieldAddrK Tryd.prog st 28 x 3 K = bindO (st.ev x) (fldP 3 K) :=
  fld_ (P := Tryd.prog) (st := st) (x := x) (K := K) (f := 3) Tryd.underlying28 rfl sz9 (by decide)
theorem fi28_3 {st : PS} {x : Operand} {K : PV → Prop} : fieldK Tryd.prog st 28 x 3 K = bindO (st.ev x) (fieldP Tryd.prog 9 3 K) :=
  field_ (P := Tryd.prog) (st := st) (x := x) (K := K) (f := 3) Tryd.underlying28 rfl
theorem fa28_4 {st : PS} {x : Operand} {K : PV → Prop} : fieldAddrK Tryd.prog st 28 x 4 K = bindO (st.ev x) (fldP 4 K) :=
  fld_ (P := Tryd.prog) (st := st) (x := x) (K := K) (f := 4) Tryd.underlying28 rfl sz26 (by decide)
theorem fi28_4 {st : PS} {x : Operand} {K : PV → Prop} : fieldK Tryd.prog st 28 x 4 K = bindO (st.ev x) (fieldP Tryd.prog 26 4 K) :=
  field_ (P := Tryd.prog) (st := st) (x := x) (K := K) (f := 4) Tryd.underlying28 rfl
theorem fa28_5 {st : PS} {x : Operand} {K : PV → Prop} : fieldAddrK Tryd.prog st 28 x 5 K = bindO (st.ev x) (fldP 5 K) :=
  fld_ (P := Tryd.prog) (st := st) (x := x) (K := K) (f := 5) Tryd.underlying28 rfl sz23 (by decide)
theorem fi28_5 {st : PS} {x : Operand} {K : PV → Prop} : fieldK Tryd.prog st 28 x 5 K = bindO (st.ev x) (fieldP Tryd.prog 23 5 K) :=
  field_ (P := Tryd.prog) (st := st) (x := x) (K := K) (f := 5) Tryd.underlying28 rfl
theorem bld28 {st : PS} {l : List (Nat × Operand)} {K : PV → Prop} : buildK Tryd.prog st 28 l K = bindO (evParts st l) fun ps => (ps.all fun e => match e.2 with | .tup _ => false | _ => true) = true ∧ bindO (fillP (fun i => [(0, 1), (1, 1), (2, 1), (3, 1), (4, 1), (5, 1)][i]?) [.val (.int .i64 0), .val (.bool false), .val (.int .i64 0), .val (.string ByteArray.empty), .val (.slice none 0 0), .val (.slice none 0 0)] ps) fun cs => K (.agg cs) :=
  buildC Tryd.underlying28 z28 (by kernel_rfl) rfl rfl
-- 29: func([]chevallaw03.Node) chevalref03.V
theorem rdo29 {cs : List PV} {off : Nat} : readCells Tryd.prog 29 cs off = cs[off]? := rd_one ag29
-- 30: []value.Value
theorem rdo30 {cs : List PV} {off : Nat} : readCells Tryd.prog 30 cs off = cs[off]? := rd_one ag30
theorem alc30 {dr : Bool} {st : PS} {id tk : Nat} {K : PS → Prop} {d : Option Tmp} {ty : TypeId} {pos : String} {af : Array Edge} {g : Option (Nat × Bool)} : stepN dr Tryd.prog ⟨d, .alloc 30, ty, pos, af, g⟩ st id tk K = K (PS.put { st with heap := (id, .box 30 [.val (.slice none 0 0)]) :: st.heap } d (.ptr id 0)) := s_allocC z30 rfl rfl
theorem lns30 {st : PS} {x : Operand} {K : PV → Prop} : lenK Tryd.prog st 30 x K = bindO (st.ev x) (lenP K) := len_slice Tryd.underlying30
theorem ixs30 {st : PS} {x y : Operand} {K : PV → Prop} : indexAddrK Tryd.prog st 30 x y K = bindO (st.ev x) fun p => bindO (st.ev y) fun q => intK q fun i => ixP 6 i K p := ix_slice Tryd.underlying30 sz32
theorem sls30 {st : PS} {x : Operand} {lo hi : Option Operand} {K : PV → Prop} : sliceK Tryd.prog st 30 x lo hi K = bindO (st.ev x) (slcP 6 st lo hi K) := slc_slice Tryd.underlying30 sz32
theorem app30 {st : PS} {tk : Nat} {x y : Operand} {K : Delta → Prop} : appendK Tryd.prog st tk ⟨.builtin .append, #[x, y], #[30, 30]⟩ K = bindO (st.ev x) fun d => bindO (st.ev y) fun s => bindO (srcXs st 6 s) fun ys0 => bindO (fzLL ys0) fun ys => (∀ y ∈ ys, y.length = 6) ∧ appT 32 6 88 st tk K d ys :=
  append_t Tryd.underlying30 sz32 by32 z32 rfl (by decide)
theorem bs30 {dr : Bool} {st : PS} {id tk n : Nat} {K : PS → Prop} {d : Option Tmp} {ty : TypeId} {pos : String} {af : Array Edge} {g : Option (Nat × Bool)} {l : List (Nat × Operand)} :
    stepN dr Tryd.prog ⟨d, .buildSlice 30 n l.toArray, ty, pos, af, g⟩ st id tk K = bindO (evParts st l) fun ps => bindO (valsOf ps 0) fun xs => (∀ x ∈ xs, x.length = 6) ∧ xs.length = n ∧ n * 6 ≤ 16777216 ∧ K (PS.put { st with toks := upd st.toks tk ⟨32, 6, n⟩ } d (.row tk xs)) :=
  s_buildSlice Tryd.underlying30 sz32 z32 (by decide) rfl
theorem mks30 {dr : Bool} {st : PS} {id tk : Nat} {K : PS → Prop} {d : Option Tmp} {ty : TypeId} {pos : String} {af : Array Edge} {g : Option (Nat × Bool)} {l c : Operand} : stepN dr Tryd.prog ⟨d, .makeSlice 30 l c, ty, pos, af, g⟩ st id tk K = bindO (st.ev l) fun p => bindO (st.ev c) fun q => intK p fun n => intK q fun m => n = m ∧ 0 ≤ n ∧ n ≤ 9223372036854775807 ∧ 88 * n ≤ 281474976710656 ∧
    K (PS.put { st with heap := (id, .box 32 ((List.range (n.toNat * 6)).map fun i => [.val (.int .i64 0), .val (.bool false), .val (.int .i64 0), .val (.string ByteArray.empty), .val (.slice none 0 0), .val (.slice none 0 0)].getD (i % 6) (.val .nilIface))) :: st.heap } d (.ms id 0 n.toNat n.toNat)) :=
  s_makeSlice Tryd.underlying30 sz32 by32 z32 rfl rfl (by decide) rfl
-- 31: struct { Kind int; Bool bool; Int int64; Str string; Items []value.Value; Keys []string }
theorem rda31 {cs : List PV} {off : Nat} : readCells Tryd.prog 31 cs off = if off + 6 ≤ cs.length then some (.agg ((cs.drop off).take 6)) else none := rd_agg ag31 sz31
theorem alc31 {dr : Bool} {st : PS} {id tk : Nat} {K : PS → Prop} {d : Option Tmp} {ty : TypeId} {pos : String} {af : Array Edge} {g : Option (Nat × Bool)} : stepN dr Tryd.prog ⟨d, .alloc 31, ty, pos, af, g⟩ st id tk K = K (PS.put { st with heap := (id, .box 31 [.val (.int .i64 0), .val (.bool false), .val (.int .i64 0), .val (.string ByteArray.empty), .val (.slice none 0 0), .val (.slice none 0 0)]) :: st.heap } d (.ptr id 0)) := s_allocC z31 rfl rfl
theorem mki31 {dr : Bool} {st : PS} {id tk : Nat} {K : PS → Prop} {d : Option Tmp} {ty : TypeId} {pos : String} {af : Array Edge} {g : Option (Nat × Bool)} {x : Operand} : stepN dr Tryd.prog ⟨d, .makeInterface 31 x, ty, pos, af, g⟩ st id tk K = bindO (st.ev x) fun p => K (st.put d (.iface 31 p)) := s_makeIface Tryd.underlying31 rfl
theorem fa31_0 {st : PS} {x : Operand} {K : PV → Prop} : fieldAddrK Tryd.prog st 31 x 0 K = bindO (st.ev x) (fldP 0 K) :=
  fld_ (P := Tryd.prog) (st := st) (x := x) (K := K) (f := 0) Tryd.underlying31 rfl sz3 (by decide)
theorem fi31_0 {st : PS} {x : Operand} {K : PV → Prop} : fieldK Tryd.prog st 31 x 0 K = bindO (st.ev x) (fieldP Tryd.prog 3 0 K) :=
  field_ (P := Tryd.prog) (st := st) (x := x) (K := K) (f := 0) Tryd.underlying31 rfl
theorem fa31_1 {st : PS} {x : Operand} {K : PV → Prop} : fieldAddrK Tryd.prog st 31 x 1 K = bindO (st.ev x) (fldP 1 K) :=
  fld_ (P := Tryd.prog) (st := st) (x := x) (K := K) (f := 1) Tryd.underlying31 rfl sz4 (by decide)
theorem fi31_1 {st : PS} {x : Operand} {K : PV → Prop} : fieldK Tryd.prog st 31 x 1 K = bindO (st.ev x) (fieldP Tryd.prog 4 1 K) :=
  field_ (P := Tryd.prog) (st := st) (x := x) (K := K) (f := 1) Tryd.underlying31 rfl
theorem fa31_2 {st : PS} {x : Operand} {K : PV → Prop} : fieldAddrK Tryd.prog st 31 x 2 K = bindO (st.ev x) (fldP 2 K) :=
  fld_ (P := Tryd.prog) (st := st) (x := x) (K := K) (f := 2) Tryd.underlying31 rfl sz2 (by decide)
theorem fi31_2 {st : PS} {x : Operand} {K : PV → Prop} : fieldK Tryd.prog st 31 x 2 K = bindO (st.ev x) (fieldP Tryd.prog 2 2 K) :=
  field_ (P := Tryd.prog) (st := st) (x := x) (K := K) (f := 2) Tryd.underlying31 rfl
theorem fa31_3 {st : PS} {x : Operand} {K : PV → Prop} : fieldAddrK Tryd.prog st 31 x 3 K = bindO (st.ev x) (fldP 3 K) :=
  fld_ (P := Tryd.prog) (st := st) (x := x) (K := K) (f := 3) Tryd.underlying31 rfl sz9 (by decide)
theorem fi31_3 {st : PS} {x : Operand} {K : PV → Prop} : fieldK Tryd.prog st 31 x 3 K = bindO (st.ev x) (fieldP Tryd.prog 9 3 K) :=
  field_ (P := Tryd.prog) (st := st) (x := x) (K := K) (f := 3) Tryd.underlying31 rfl
theorem fa31_4 {st : PS} {x : Operand} {K : PV → Prop} : fieldAddrK Tryd.prog st 31 x 4 K = bindO (st.ev x) (fldP 4 K) :=
  fld_ (P := Tryd.prog) (st := st) (x := x) (K := K) (f := 4) Tryd.underlying31 rfl sz30 (by decide)
theorem fi31_4 {st : PS} {x : Operand} {K : PV → Prop} : fieldK Tryd.prog st 31 x 4 K = bindO (st.ev x) (fieldP Tryd.prog 30 4 K) :=
  field_ (P := Tryd.prog) (st := st) (x := x) (K := K) (f := 4) Tryd.underlying31 rfl
theorem fa31_5 {st : PS} {x : Operand} {K : PV → Prop} : fieldAddrK Tryd.prog st 31 x 5 K = bindO (st.ev x) (fldP 5 K) :=
  fld_ (P := Tryd.prog) (st := st) (x := x) (K := K) (f := 5) Tryd.underlying31 rfl sz23 (by decide)
theorem fi31_5 {st : PS} {x : Operand} {K : PV → Prop} : fieldK Tryd.prog st 31 x 5 K = bindO (st.ev x) (fieldP Tryd.prog 23 5 K) :=
  field_ (P := Tryd.prog) (st := st) (x := x) (K := K) (f := 5) Tryd.underlying31 rfl
theorem bld31 {st : PS} {l : List (Nat × Operand)} {K : PV → Prop} : buildK Tryd.prog st 31 l K = bindO (evParts st l) fun ps => (ps.all fun e => match e.2 with | .tup _ => false | _ => true) = true ∧ bindO (fillP (fun i => [(0, 1), (1, 1), (2, 1), (3, 1), (4, 1), (5, 1)][i]?) [.val (.int .i64 0), .val (.bool false), .val (.int .i64 0), .val (.string ByteArray.empty), .val (.slice none 0 0), .val (.slice none 0 0)] ps) fun cs => K (.agg cs) :=
  buildC Tryd.underlying31 z31 (by kernel_rfl) rfl rfl
-- 32: value.Value
theorem rda32 {cs : List PV} {off : Nat} : readCells Tryd.prog 32 cs off = if off + 6 ≤ cs.length then some (.agg ((cs.drop off).take 6)) else none := rd_agg ag32 sz32
theorem alc32 {dr : Bool} {st : PS} {id tk : Nat} {K : PS → Prop} {d : Option Tmp} {ty : TypeId} {pos : String} {af : Array Edge} {g : Option (Nat × Bool)} : stepN dr Tryd.prog ⟨d, .alloc 32, ty, pos, af, g⟩ st id tk K = K (PS.put { st with heap := (id, .box 32 [.val (.int .i64 0), .val (.bool false), .val (.int .i64 0), .val (.string ByteArray.empty), .val (.slice none 0 0), .val (.slice none 0 0)]) :: st.heap } d (.ptr id 0)) := s_allocC z32 rfl rfl
theorem mki32 {dr : Bool} {st : PS} {id tk : Nat} {K : PS → Prop} {d : Option Tmp} {ty : TypeId} {pos : String} {af : Array Edge} {g : Option (Nat × Bool)} {x : Operand} : stepN dr Tryd.prog ⟨d, .makeInterface 32 x, ty, pos, af, g⟩ st id tk K = bindO (st.ev x) fun p => K (st.put d (.iface 32 p)) := s_makeIface Tryd.underlying32 rfl
theorem fa32_0 {st : PS} {x : Operand} {K : PV → Prop} : fieldAddrK Tryd.prog st 32 x 0 K = bindO (st.ev x) (fldP 0 K) :=
  fld_ (P := Tryd.prog) (st := st) (x := x) (K := K) (f := 0) Tryd.underlying32 rfl sz3 (by decide)
theorem fi32_0 {st : PS} {x : Operand} {K : PV → Prop} : fieldK Tryd.prog st 32 x 0 K = bindO (st.ev x) (fieldP Tryd.prog 3 0 K) :=
  field_ (P := Tryd.prog) (st := st) (x := x) (K := K) (f := 0) Tryd.underlying32 rfl
theorem fa32_1 {st : PS} {x : Operand} {K : PV → Prop} : fieldAddrK Tryd.prog st 32 x 1 K = bindO (st.ev x) (fldP 1 K) :=
  fld_ (P := Tryd.prog) (st := st) (x := x) (K := K) (f := 1) Tryd.underlying32 rfl sz4 (by decide)
theorem fi32_1 {st : PS} {x : Operand} {K : PV → Prop} : fieldK Tryd.prog st 32 x 1 K = bindO (st.ev x) (fieldP Tryd.prog 4 1 K) :=
  field_ (P := Tryd.prog) (st := st) (x := x) (K := K) (f := 1) Tryd.underlying32 rfl
theorem fa32_2 {st : PS} {x : Operand} {K : PV → Prop} : fieldAddrK Tryd.prog st 32 x 2 K = bindO (st.ev x) (fldP 2 K) :=
  fld_ (P := Tryd.prog) (st := st) (x := x) (K := K) (f := 2) Tryd.underlying32 rfl sz2 (by decide)
theorem fi32_2 {st : PS} {x : Operand} {K : PV → Prop} : fieldK Tryd.prog st 32 x 2 K = bindO (st.ev x) (fieldP Tryd.prog 2 2 K) :=
  field_ (P := Tryd.prog) (st := st) (x := x) (K := K) (f := 2) Tryd.underlying32 rfl
theorem fa32_3 {st : PS} {x : Operand} {K : PV → Prop} : fieldAddrK Tryd.prog st 32 x 3 K = bindO (st.ev x) (fldP 3 K) :=
  fld_ (P := Tryd.prog) (st := st) (x := x) (K := K) (f := 3) Tryd.underlying32 rfl sz9 (by decide)
theorem fi32_3 {st : PS} {x : Operand} {K : PV → Prop} : fieldK Tryd.prog st 32 x 3 K = bindO (st.ev x) (fieldP Tryd.prog 9 3 K) :=
  field_ (P := Tryd.prog) (st := st) (x := x) (K := K) (f := 3) Tryd.underlying32 rfl
theorem fa32_4 {st : PS} {x : Operand} {K : PV → Prop} : fieldAddrK Tryd.prog st 32 x 4 K = bindO (st.ev x) (fldP 4 K) :=
  fld_ (P := Tryd.prog) (st := st) (x := x) (K := K) (f := 4) Tryd.underlying32 rfl sz30 (by decide)
theorem fi32_4 {st : PS} {x : Operand} {K : PV → Prop} : fieldK Tryd.prog st 32 x 4 K = bindO (st.ev x) (fieldP Tryd.prog 30 4 K) :=
  field_ (P := Tryd.prog) (st := st) (x := x) (K := K) (f := 4) Tryd.underlying32 rfl
theorem fa32_5 {st : PS} {x : Operand} {K : PV → Prop} : fieldAddrK Tryd.prog st 32 x 5 K = bindO (st.ev x) (fldP 5 K) :=
  fld_ (P := Tryd.prog) (st := st) (x := x) (K := K) (f := 5) Tryd.underlying32 rfl sz23 (by decide)
theorem fi32_5 {st : PS} {x : Operand} {K : PV → Prop} : fieldK Tryd.prog st 32 x 5 K = bindO (st.ev x) (fieldP Tryd.prog 23 5 K) :=
  field_ (P := Tryd.prog) (st := st) (x := x) (K := K) (f := 5) Tryd.underlying32 rfl
theorem bld32 {st : PS} {l : List (Nat × Operand)} {K : PV → Prop} : buildK Tryd.prog st 32 l K = bindO (evParts st l) fun ps => (ps.all fun e => match e.2 with | .tup _ => false | _ => true) = true ∧ bindO (fillP (fun i => [(0, 1), (1, 1), (2, 1), (3, 1), (4, 1), (5, 1)][i]?) [.val (.int .i64 0), .val (.bool false), .val (.int .i64 0), .val (.string ByteArray.empty), .val (.slice none 0 0), .val (.slice none 0 0)] ps) fun cs => K (.agg cs) :=
  buildC Tryd.underlying32 z32 (by kernel_rfl) rfl rfl
-- 33: api.Errno
theorem rdo33 {cs : List PV} {off : Nat} : readCells Tryd.prog 33 cs off = cs[off]? := rd_one ag33
theorem alc33 {dr : Bool} {st : PS} {id tk : Nat} {K : PS → Prop} {d : Option Tmp} {ty : TypeId} {pos : String} {af : Array Edge} {g : Option (Nat × Bool)} : stepN dr Tryd.prog ⟨d, .alloc 33, ty, pos, af, g⟩ st id tk K = K (PS.put { st with heap := (id, .box 33 [.val (.int .i64 0)]) :: st.heap } d (.ptr id 0)) := s_allocC z33 rfl rfl
theorem mki33 {dr : Bool} {st : PS} {id tk : Nat} {K : PS → Prop} {d : Option Tmp} {ty : TypeId} {pos : String} {af : Array Edge} {g : Option (Nat × Bool)} {x : Operand} : stepN dr Tryd.prog ⟨d, .makeInterface 33 x, ty, pos, af, g⟩ st id tk K = bindO (st.ev x) fun p => K (st.put d (.iface 33 p)) := s_makeIface Tryd.underlying33 rfl
-- 35: func(value.Value, []string) (value.Value, api.Errno)
theorem rdo35 {cs : List PV} {off : Nat} : readCells Tryd.prog 35 cs off = cs[off]? := rd_one ag35
-- 36: func(chevalref03.V) value.Value
theorem rdo36 {cs : List PV} {off : Nat} : readCells Tryd.prog 36 cs off = cs[off]? := rd_one ag36
-- 38: func(chevalref03.V, []string) (chevalref03.V, bool)
theorem rdo38 {cs : List PV} {off : Nat} : readCells Tryd.prog 38 cs off = cs[off]? := rd_one ag38
-- 39: func(chevalref03.V, chevalref03.V) bool
theorem rdo39 {cs : List PV} {off : Nat} : readCells Tryd.prog 39 cs off = cs[off]? := rd_one ag39
-- 40: func(value.Value) chevalref03.V
theorem rdo40 {cs : List PV} {off : Nat} : readCells Tryd.prog 40 cs off = cs[off]? := rd_one ag40
-- 41: func([]chevallaw03.Node, []string) bool
theorem rdo41 {cs : List PV} {off : Nat} : readCells Tryd.prog 41 cs off = cs[off]? := rd_one ag41
-- 42: []chevalref04.Part
theorem rdo42 {cs : List PV} {off : Nat} : readCells Tryd.prog 42 cs off = cs[off]? := rd_one ag42
theorem alc42 {dr : Bool} {st : PS} {id tk : Nat} {K : PS → Prop} {d : Option Tmp} {ty : TypeId} {pos : String} {af : Array Edge} {g : Option (Nat × Bool)} : stepN dr Tryd.prog ⟨d, .alloc 42, ty, pos, af, g⟩ st id tk K = K (PS.put { st with heap := (id, .box 42 [.val (.slice none 0 0)]) :: st.heap } d (.ptr id 0)) := s_allocC z42 rfl rfl
theorem lns42 {st : PS} {x : Operand} {K : PV → Prop} : lenK Tryd.prog st 42 x K = bindO (st.ev x) (lenP K) := len_slice Tryd.underlying42
theorem ixs42 {st : PS} {x y : Operand} {K : PV → Prop} : indexAddrK Tryd.prog st 42 x y K = bindO (st.ev x) fun p => bindO (st.ev y) fun q => intK q fun i => ixP 7 i K p := ix_slice Tryd.underlying42 sz49
theorem sls42 {st : PS} {x : Operand} {lo hi : Option Operand} {K : PV → Prop} : sliceK Tryd.prog st 42 x lo hi K = bindO (st.ev x) (slcP 7 st lo hi K) := slc_slice Tryd.underlying42 sz49
theorem app42 {st : PS} {tk : Nat} {x y : Operand} {K : Delta → Prop} : appendK Tryd.prog st tk ⟨.builtin .append, #[x, y], #[42, 42]⟩ K = bindO (st.ev x) fun d => bindO (st.ev y) fun s => bindO (srcXs st 7 s) fun ys0 => bindO (fzLL ys0) fun ys => (∀ y ∈ ys, y.length = 7) ∧ appT 49 7 112 st tk K d ys :=
  append_t Tryd.underlying42 sz49 by49 z49 rfl (by decide)
theorem bs42 {dr : Bool} {st : PS} {id tk n : Nat} {K : PS → Prop} {d : Option Tmp} {ty : TypeId} {pos : String} {af : Array Edge} {g : Option (Nat × Bool)} {l : List (Nat × Operand)} :
    stepN dr Tryd.prog ⟨d, .buildSlice 42 n l.toArray, ty, pos, af, g⟩ st id tk K = bindO (evParts st l) fun ps => bindO (valsOf ps 0) fun xs => (∀ x ∈ xs, x.length = 7) ∧ xs.length = n ∧ n * 7 ≤ 16777216 ∧ K (PS.put { st with toks := upd st.toks tk ⟨49, 7, n⟩ } d (.row tk xs)) :=
  s_buildSlice Tryd.underlying42 sz49 z49 (by decide) rfl
theorem mks42 {dr : Bool} {st : PS} {id tk : Nat} {K : PS → Prop} {d : Option Tmp} {ty : TypeId} {pos : String} {af : Array Edge} {g : Option (Nat × Bool)} {l c : Operand} : stepN dr Tryd.prog ⟨d, .makeSlice 42 l c, ty, pos, af, g⟩ st id tk K = bindO (st.ev l) fun p => bindO (st.ev c) fun q => intK p fun n => intK q fun m => n = m ∧ 0 ≤ n ∧ n ≤ 9223372036854775807 ∧ 112 * n ≤ 281474976710656 ∧
    K (PS.put { st with heap := (id, .box 49 ((List.range (n.toNat * 7)).map fun i => [.val (.slice none 0 0), .val (.int .i64 0), .val (.bool false), .val (.int .i64 0), .val (.string ByteArray.empty), .val (.slice none 0 0), .val (.slice none 0 0)].getD (i % 7) (.val .nilIface))) :: st.heap } d (.ms id 0 n.toNat n.toNat)) :=
  s_makeSlice Tryd.underlying42 sz49 by49 z49 rfl rfl (by decide) rfl
-- 43: func(chevalref03.V, []string) []chevalref04.Part
theorem rdo43 {cs : List PV} {off : Nat} : readCells Tryd.prog 43 cs off = cs[off]? := rd_one ag43
-- 44: func(func([]string, value.Value) bool)
theorem rdo44 {cs : List PV} {off : Nat} : readCells Tryd.prog 44 cs off = cs[off]? := rd_one ag44
-- 45: iter.Seq2[[]string,cheval/value.Value]
theorem rdo45 {cs : List PV} {off : Nat} : readCells Tryd.prog 45 cs off = cs[off]? := rd_one ag45
-- 46: func(value.Value) iter.Seq2[[]string,cheval/value.Value]
theorem rdo46 {cs : List PV} {off : Nat} : readCells Tryd.prog 46 cs off = cs[off]? := rd_one ag46
-- 47: func([]string, []string) bool
theorem rdo47 {cs : List PV} {off : Nat} : readCells Tryd.prog 47 cs off = cs[off]? := rd_one ag47
-- 48: struct { Path []string; V chevalref03.V }
theorem rda48 {cs : List PV} {off : Nat} : readCells Tryd.prog 48 cs off = if off + 7 ≤ cs.length then some (.agg ((cs.drop off).take 7)) else none := rd_agg ag48 sz48
theorem alc48 {dr : Bool} {st : PS} {id tk : Nat} {K : PS → Prop} {d : Option Tmp} {ty : TypeId} {pos : String} {af : Array Edge} {g : Option (Nat × Bool)} : stepN dr Tryd.prog ⟨d, .alloc 48, ty, pos, af, g⟩ st id tk K = K (PS.put { st with heap := (id, .box 48 [.val (.slice none 0 0), .val (.int .i64 0), .val (.bool false), .val (.int .i64 0), .val (.string ByteArray.empty), .val (.slice none 0 0), .val (.slice none 0 0)]) :: st.heap } d (.ptr id 0)) := s_allocC z48 rfl rfl
theorem mki48 {dr : Bool} {st : PS} {id tk : Nat} {K : PS → Prop} {d : Option Tmp} {ty : TypeId} {pos : String} {af : Array Edge} {g : Option (Nat × Bool)} {x : Operand} : stepN dr Tryd.prog ⟨d, .makeInterface 48 x, ty, pos, af, g⟩ st id tk K = bindO (st.ev x) fun p => K (st.put d (.iface 48 p)) := s_makeIface Tryd.underlying48 rfl
theorem fa48_0 {st : PS} {x : Operand} {K : PV → Prop} : fieldAddrK Tryd.prog st 48 x 0 K = bindO (st.ev x) (fldP 0 K) :=
  fld_ (P := Tryd.prog) (st := st) (x := x) (K := K) (f := 0) Tryd.underlying48 rfl sz23 (by decide)
theorem fi48_0 {st : PS} {x : Operand} {K : PV → Prop} : fieldK Tryd.prog st 48 x 0 K = bindO (st.ev x) (fieldP Tryd.prog 23 0 K) :=
  field_ (P := Tryd.prog) (st := st) (x := x) (K := K) (f := 0) Tryd.underlying48 rfl
theorem fa48_1 {st : PS} {x : Operand} {K : PV → Prop} : fieldAddrK Tryd.prog st 48 x 1 K = bindO (st.ev x) (fldP 1 K) :=
  fld_ (P := Tryd.prog) (st := st) (x := x) (K := K) (f := 1) Tryd.underlying48 rfl sz28 (by decide)
theorem fi48_1 {st : PS} {x : Operand} {K : PV → Prop} : fieldK Tryd.prog st 48 x 1 K = bindO (st.ev x) (fieldP Tryd.prog 28 1 K) :=
  field_ (P := Tryd.prog) (st := st) (x := x) (K := K) (f := 1) Tryd.underlying48 rfl
theorem bld48 {st : PS} {l : List (Nat × Operand)} {K : PV → Prop} : buildK Tryd.prog st 48 l K = bindO (evParts st l) fun ps => (ps.all fun e => match e.2 with | .tup _ => false | _ => true) = true ∧ bindO (fillP (fun i => [(0, 1), (1, 6)][i]?) [.val (.slice none 0 0), .val (.int .i64 0), .val (.bool false), .val (.int .i64 0), .val (.string ByteArray.empty), .val (.slice none 0 0), .val (.slice none 0 0)] ps) fun cs => K (.agg cs) :=
  buildC Tryd.underlying48 z48 (by kernel_rfl) rfl rfl
-- 49: chevalref04.Part
theorem rda49 {cs : List PV} {off : Nat} : readCells Tryd.prog 49 cs off = if off + 7 ≤ cs.length then some (.agg ((cs.drop off).take 7)) else none := rd_agg ag49 sz49
theorem alc49 {dr : Bool} {st : PS} {id tk : Nat} {K : PS → Prop} {d : Option Tmp} {ty : TypeId} {pos : String} {af : Array Edge} {g : Option (Nat × Bool)} : stepN dr Tryd.prog ⟨d, .alloc 49, ty, pos, af, g⟩ st id tk K = K (PS.put { st with heap := (id, .box 49 [.val (.slice none 0 0), .val (.int .i64 0), .val (.bool false), .val (.int .i64 0), .val (.string ByteArray.empty), .val (.slice none 0 0), .val (.slice none 0 0)]) :: st.heap } d (.ptr id 0)) := s_allocC z49 rfl rfl
theorem mki49 {dr : Bool} {st : PS} {id tk : Nat} {K : PS → Prop} {d : Option Tmp} {ty : TypeId} {pos : String} {af : Array Edge} {g : Option (Nat × Bool)} {x : Operand} : stepN dr Tryd.prog ⟨d, .makeInterface 49 x, ty, pos, af, g⟩ st id tk K = bindO (st.ev x) fun p => K (st.put d (.iface 49 p)) := s_makeIface Tryd.underlying49 rfl
theorem fa49_0 {st : PS} {x : Operand} {K : PV → Prop} : fieldAddrK Tryd.prog st 49 x 0 K = bindO (st.ev x) (fldP 0 K) :=
  fld_ (P := Tryd.prog) (st := st) (x := x) (K := K) (f := 0) Tryd.underlying49 rfl sz23 (by decide)
theorem fi49_0 {st : PS} {x : Operand} {K : PV → Prop} : fieldK Tryd.prog st 49 x 0 K = bindO (st.ev x) (fieldP Tryd.prog 23 0 K) :=
  field_ (P := Tryd.prog) (st := st) (x := x) (K := K) (f := 0) Tryd.underlying49 rfl
theorem fa49_1 {st : PS} {x : Operand} {K : PV → Prop} : fieldAddrK Tryd.prog st 49 x 1 K = bindO (st.ev x) (fldP 1 K) :=
  fld_ (P := Tryd.prog) (st := st) (x := x) (K := K) (f := 1) Tryd.underlying49 rfl sz28 (by decide)
theorem fi49_1 {st : PS} {x : Operand} {K : PV → Prop} : fieldK Tryd.prog st 49 x 1 K = bindO (st.ev x) (fieldP Tryd.prog 28 1 K) :=
  field_ (P := Tryd.prog) (st := st) (x := x) (K := K) (f := 1) Tryd.underlying49 rfl
theorem bld49 {st : PS} {l : List (Nat × Operand)} {K : PV → Prop} : buildK Tryd.prog st 49 l K = bindO (evParts st l) fun ps => (ps.all fun e => match e.2 with | .tup _ => false | _ => true) = true ∧ bindO (fillP (fun i => [(0, 1), (1, 6)][i]?) [.val (.slice none 0 0), .val (.int .i64 0), .val (.bool false), .val (.int .i64 0), .val (.string ByteArray.empty), .val (.slice none 0 0), .val (.slice none 0 0)] ps) fun cs => K (.agg cs) :=
  buildC Tryd.underlying49 z49 (by kernel_rfl) rfl rfl
-- 50: func([]string, value.Value) bool
theorem rdo50 {cs : List PV} {off : Nat} : readCells Tryd.prog 50 cs off = cs[off]? := rd_one ag50
-- 51: func([]chevallaw03.Node, uint8) bool
theorem rdo51 {cs : List PV} {off : Nat} : readCells Tryd.prog 51 cs off = cs[off]? := rd_one ag51
-- 52: uint16
theorem rdo52 {cs : List PV} {off : Nat} : readCells Tryd.prog 52 cs off = cs[off]? := rd_one ag52
theorem alc52 {dr : Bool} {st : PS} {id tk : Nat} {K : PS → Prop} {d : Option Tmp} {ty : TypeId} {pos : String} {af : Array Edge} {g : Option (Nat × Bool)} : stepN dr Tryd.prog ⟨d, .alloc 52, ty, pos, af, g⟩ st id tk K = K (PS.put { st with heap := (id, .box 52 [.val (.int .u16 0)]) :: st.heap } d (.ptr id 0)) := s_allocC z52 rfl rfl
theorem mki52 {dr : Bool} {st : PS} {id tk : Nat} {K : PS → Prop} {d : Option Tmp} {ty : TypeId} {pos : String} {af : Array Edge} {g : Option (Nat × Bool)} {x : Operand} : stepN dr Tryd.prog ⟨d, .makeInterface 52 x, ty, pos, af, g⟩ st id tk K = bindO (st.ev x) fun p => K (st.put d (.iface 52 p)) := s_makeIface Tryd.underlying52 rfl
-- 53: struct { N uint16; More []string }
theorem rda53 {cs : List PV} {off : Nat} : readCells Tryd.prog 53 cs off = if off + 2 ≤ cs.length then some (.agg ((cs.drop off).take 2)) else none := rd_agg ag53 sz53
theorem alc53 {dr : Bool} {st : PS} {id tk : Nat} {K : PS → Prop} {d : Option Tmp} {ty : TypeId} {pos : String} {af : Array Edge} {g : Option (Nat × Bool)} : stepN dr Tryd.prog ⟨d, .alloc 53, ty, pos, af, g⟩ st id tk K = K (PS.put { st with heap := (id, .box 53 [.val (.int .u16 0), .val (.slice none 0 0)]) :: st.heap } d (.ptr id 0)) := s_allocC z53 rfl rfl
theorem mki53 {dr : Bool} {st : PS} {id tk : Nat} {K : PS → Prop} {d : Option Tmp} {ty : TypeId} {pos : String} {af : Array Edge} {g : Option (Nat × Bool)} {x : Operand} : stepN dr Tryd.prog ⟨d, .makeInterface 53 x, ty, pos, af, g⟩ st id tk K = bindO (st.ev x) fun p => K (st.put d (.iface 53 p)) := s_makeIface Tryd.underlying53 rfl
theorem fa53_0 {st : PS} {x : Operand} {K : PV → Prop} : fieldAddrK Tryd.prog st 53 x 0 K = bindO (st.ev x) (fldP 0 K) :=
  fld_ (P := Tryd.prog) (st := st) (x := x) (K := K) (f := 0) Tryd.underlying53 rfl sz52 (by decide)
theorem fi53_0 {st : PS} {x : Operand} {K : PV → Prop} : fieldK Tryd.prog st 53 x 0 K = bindO (st.ev x) (fieldP Tryd.prog 52 0 K) :=
  field_ (P := Tryd.prog) (st := st) (x := x) (K := K) (f := 0) Tryd.underlying53 rfl
theorem fa53_1 {st : PS} {x : Operand} {K : PV → Prop} : fieldAddrK Tryd.prog st 53 x 1 K = bindO (st.ev x) (fldP 1 K) :=
  fld_ (P := Tryd.prog) (st := st) (x := x) (K := K) (f := 1) Tryd.underlying53 rfl sz23 (by decide)
theorem fi53_1 {st : PS} {x : Operand} {K : PV → Prop} : fieldK Tryd.prog st 53 x 1 K = bindO (st.ev x) (fieldP Tryd.prog 23 1 K) :=
  field_ (P := Tryd.prog) (st := st) (x := x) (K := K) (f := 1) Tryd.underlying53 rfl
theorem bld53 {st : PS} {l : List (Nat × Operand)} {K : PV → Prop} : buildK Tryd.prog st 53 l K = bindO (evParts st l) fun ps => (ps.all fun e => match e.2 with | .tup _ => false | _ => true) = true ∧ bindO (fillP (fun i => [(0, 1), (1, 1)][i]?) [.val (.int .u16 0), .val (.slice none 0 0)] ps) fun cs => K (.agg cs) :=
  buildC Tryd.underlying53 z53 (by kernel_rfl) rfl rfl
-- 54: chevallaw04.Where
theorem rda54 {cs : List PV} {off : Nat} : readCells Tryd.prog 54 cs off = if off + 2 ≤ cs.length then some (.agg ((cs.drop off).take 2)) else none := rd_agg ag54 sz54
theorem alc54 {dr : Bool} {st : PS} {id tk : Nat} {K : PS → Prop} {d : Option Tmp} {ty : TypeId} {pos : String} {af : Array Edge} {g : Option (Nat × Bool)} : stepN dr Tryd.prog ⟨d, .alloc 54, ty, pos, af, g⟩ st id tk K = K (PS.put { st with heap := (id, .box 54 [.val (.int .u16 0), .val (.slice none 0 0)]) :: st.heap } d (.ptr id 0)) := s_allocC z54 rfl rfl
theorem mki54 {dr : Bool} {st : PS} {id tk : Nat} {K : PS → Prop} {d : Option Tmp} {ty : TypeId} {pos : String} {af : Array Edge} {g : Option (Nat × Bool)} {x : Operand} : stepN dr Tryd.prog ⟨d, .makeInterface 54 x, ty, pos, af, g⟩ st id tk K = bindO (st.ev x) fun p => K (st.put d (.iface 54 p)) := s_makeIface Tryd.underlying54 rfl
theorem fa54_0 {st : PS} {x : Operand} {K : PV → Prop} : fieldAddrK Tryd.prog st 54 x 0 K = bindO (st.ev x) (fldP 0 K) :=
  fld_ (P := Tryd.prog) (st := st) (x := x) (K := K) (f := 0) Tryd.underlying54 rfl sz52 (by decide)
theorem fi54_0 {st : PS} {x : Operand} {K : PV → Prop} : fieldK Tryd.prog st 54 x 0 K = bindO (st.ev x) (fieldP Tryd.prog 52 0 K) :=
  field_ (P := Tryd.prog) (st := st) (x := x) (K := K) (f := 0) Tryd.underlying54 rfl
theorem fa54_1 {st : PS} {x : Operand} {K : PV → Prop} : fieldAddrK Tryd.prog st 54 x 1 K = bindO (st.ev x) (fldP 1 K) :=
  fld_ (P := Tryd.prog) (st := st) (x := x) (K := K) (f := 1) Tryd.underlying54 rfl sz23 (by decide)
theorem fi54_1 {st : PS} {x : Operand} {K : PV → Prop} : fieldK Tryd.prog st 54 x 1 K = bindO (st.ev x) (fieldP Tryd.prog 23 1 K) :=
  field_ (P := Tryd.prog) (st := st) (x := x) (K := K) (f := 1) Tryd.underlying54 rfl
theorem bld54 {st : PS} {l : List (Nat × Operand)} {K : PV → Prop} : buildK Tryd.prog st 54 l K = bindO (evParts st l) fun ps => (ps.all fun e => match e.2 with | .tup _ => false | _ => true) = true ∧ bindO (fillP (fun i => [(0, 1), (1, 1)][i]?) [.val (.int .u16 0), .val (.slice none 0 0)] ps) fun cs => K (.agg cs) :=
  buildC Tryd.underlying54 z54 (by kernel_rfl) rfl rfl
-- 55: func(chevalref03.V, uint16) []string
theorem rdo55 {cs : List PV} {off : Nat} : readCells Tryd.prog 55 cs off = cs[off]? := rd_one ag55
-- 56: func(value.Value, []string, value.Value) (value.Value, api.Errno)
theorem rdo56 {cs : List PV} {off : Nat} : readCells Tryd.prog 56 cs off = cs[off]? := rd_one ag56
-- 57: func(chevalref03.V, []string, chevalref03.V) chevalref03.V
theorem rdo57 {cs : List PV} {off : Nat} : readCells Tryd.prog 57 cs off = cs[off]? := rd_one ag57
-- 58: func([]chevallaw03.Node, []chevallaw03.Node, chevallaw04.Where) bool
theorem rdo58 {cs : List PV} {off : Nat} : readCells Tryd.prog 58 cs off = cs[off]? := rd_one ag58
-- 59: [2]uint16
theorem rda59 {cs : List PV} {off : Nat} : readCells Tryd.prog 59 cs off = if off + 2 ≤ cs.length then some (.agg ((cs.drop off).take 2)) else none := rd_agg ag59 sz59
theorem alc59 {dr : Bool} {st : PS} {id tk : Nat} {K : PS → Prop} {d : Option Tmp} {ty : TypeId} {pos : String} {af : Array Edge} {g : Option (Nat × Bool)} : stepN dr Tryd.prog ⟨d, .alloc 59, ty, pos, af, g⟩ st id tk K = K (PS.put { st with heap := (id, .box 59 [.val (.int .u16 0), .val (.int .u16 0)]) :: st.heap } d (.ptr id 0)) := s_allocC z59 rfl rfl
theorem lns59 {st : PS} {x : Operand} {K : PV → Prop} : lenK Tryd.prog st 59 x K = K (.val (.int .i64 (2 : Nat))) := len_array Tryd.underlying59
theorem ixs59 {st : PS} {x y : Operand} {K : PV → Prop} : indexAddrK Tryd.prog st 59 x y K = bindO (st.ev x) fun p => bindO (st.ev y) fun q => intK q fun i => ixA 1 2 i K p := ix_array Tryd.underlying59 sz52
theorem bld59 {st : PS} {l : List (Nat × Operand)} {K : PV → Prop} : buildK Tryd.prog st 59 l K = bindO (evParts st l) fun ps => (ps.all fun e => match e.2 with | .tup _ => false | _ => true) = true ∧ bindO (fillP (fun i => some (i * 1, 1)) [.val (.int .u16 0), .val (.int .u16 0)] ps) fun cs => K (.agg cs) :=
  buildA Tryd.underlying59 z59 sz52 rfl rfl
-- 60: func([]chevallaw03.Node, []chevallaw03.Node, [2]uint16) bool
theorem rdo60 {cs : List PV} {off : Nat} : readCells Tryd.prog 60 cs off = cs[off]? := rd_one ag60
-- 61: func(chevalref03.V, []string) chevalref03.V
theorem rdo61 {cs : List PV} {off : Nat} : readCells Tryd.prog 61 cs off = cs[off]? := rd_one ag61
-- 62: func([]chevallaw03.Node, uint16, []string) bool
theorem rdo62 {cs : List PV} {off : Nat} : readCells Tryd.prog 62 cs off = cs[off]? := rd_one ag62
-- 64: func(string) ([]string, int, api.Errno)
theorem rdo64 {cs : List PV} {off : Nat} : readCells Tryd.prog 64 cs off = cs[off]? := rd_one ag64
-- 66: func(string) ([]string, int, int)
theorem rdo66 {cs : List PV} {off : Nat} : readCells Tryd.prog 66 cs off = cs[off]? := rd_one ag66
-- 67: func(string) bool
theorem rdo67 {cs : List PV} {off : Nat} : readCells Tryd.prog 67 cs off = cs[off]? := rd_one ag67
-- 68: func([]string, []value.Value) (value.Value, api.Errno)
theorem rdo68 {cs : List PV} {off : Nat} : readCells Tryd.prog 68 cs off = cs[off]? := rd_one ag68
-- 69: func(...value.Value) value.Value
theorem rdo69 {cs : List PV} {off : Nat} : readCells Tryd.prog 69 cs off = cs[off]? := rd_one ag69
-- 70: func(int64) value.Value
theorem rdo70 {cs : List PV} {off : Nat} : readCells Tryd.prog 70 cs off = cs[off]? := rd_one ag70
-- 71: []uint8
theorem rdo71 {cs : List PV} {off : Nat} : readCells Tryd.prog 71 cs off = cs[off]? := rd_one ag71
theorem alc71 {dr : Bool} {st : PS} {id tk : Nat} {K : PS → Prop} {d : Option Tmp} {ty : TypeId} {pos : String} {af : Array Edge} {g : Option (Nat × Bool)} : stepN dr Tryd.prog ⟨d, .alloc 71, ty, pos, af, g⟩ st id tk K = K (PS.put { st with heap := (id, .box 71 [.val (.slice none 0 0)]) :: st.heap } d (.ptr id 0)) := s_allocC z71 rfl rfl
theorem lns71 {st : PS} {x : Operand} {K : PV → Prop} : lenK Tryd.prog st 71 x K = bindO (st.ev x) (lenP K) := len_slice Tryd.underlying71
theorem ixs71 {st : PS} {x y : Operand} {K : PV → Prop} : indexAddrK Tryd.prog st 71 x y K = bindO (st.ev x) fun p => bindO (st.ev y) fun q => intK q fun i => ixP 1 i K p := ix_slice Tryd.underlying71 sz5
theorem sls71 {st : PS} {x : Operand} {lo hi : Option Operand} {K : PV → Prop} : sliceK Tryd.prog st 71 x lo hi K = bindO (st.ev x) (slcP 1 st lo hi K) := slc_slice Tryd.underlying71 sz5
theorem app71 {st : PS} {tk : Nat} {x y : Operand} {K : Delta → Prop} : appendK Tryd.prog st tk ⟨.builtin .append, #[x, y], #[71, 71]⟩ K = bindO (st.ev x) fun d => bindO (st.ev y) fun s => bindO (srcXs st 1 s) fun ys0 => bindO (fzLL ys0) fun ys => (∀ y ∈ ys, y.length = 1) ∧ appT 5 1 1 st tk K d ys :=
  append_t Tryd.underlying71 sz5 by5 z5 rfl (by decide)
theorem bs71 {dr : Bool} {st : PS} {id tk n : Nat} {K : PS → Prop} {d : Option Tmp} {ty : TypeId} {pos : String} {af : Array Edge} {g : Option (Nat × Bool)} {l : List (Nat × Operand)} :
    stepN dr Tryd.prog ⟨d, .buildSlice 71 n l.toArray, ty, pos, af, g⟩ st id tk K = bindO (evParts st l) fun ps => bindO (valsOf ps 0) fun xs => (∀ x ∈ xs, x.length = 1) ∧ xs.length = n ∧ n * 1 ≤ 16777216 ∧ K (PS.put { st with toks := upd st.toks tk ⟨5, 1, n⟩ } d (.row tk xs)) :=
  s_buildSlice Tryd.underlying71 sz5 z5 (by decide) rfl
theorem isb71 : isBytes Tryd.prog 71 = True := eq_true ⟨5, Tryd.underlying71, Tryd.underlying5⟩
theorem aps71 {st : PS} {tk : Nat} {x y : Operand} {K : Delta → Prop} : appendK Tryd.prog st tk ⟨.builtin .append, #[x, y], #[71, 9]⟩ K = bindO (st.ev x) fun d => bindO (st.ev y) fun s => appS 5 1 st tk K d s :=
  append_s Tryd.underlying71 Tryd.underlying9 sz5 by5 z5
theorem cvr71 {k : Nat} {xs : List Int} {K : PV → Prop} : convK Tryd.prog 71 9 (rowC k xs) K = K (.val (.string (strOfNums xs))) := conv_rowC (by rw [Tryd.underlying71]; rfl) ⟨5, Tryd.underlying71, Tryd.underlying5⟩ Tryd.underlying9
theorem mks71 {dr : Bool} {st : PS} {id tk : Nat} {K : PS → Prop} {d : Option Tmp} {ty : TypeId} {pos : String} {af : Array Edge} {g : Option (Nat × Bool)} {l c : Operand} : stepN dr Tryd.prog ⟨d, .makeSlice 71 l c, ty, pos, af, g⟩ st id tk K = bindO (st.ev l) fun p => bindO (st.ev c) fun q => intK p fun n => intK q fun m => n = m ∧ 0 ≤ n ∧ n ≤ 9223372036854775807 ∧ 1 * n ≤ 281474976710656 ∧
    K (PS.put { st with heap := (id, .box 5 ((List.range (n.toNat * 1)).map fun i => [.val (.int .u8 0)].getD (i % 1) (.val .nilIface))) :: st.heap } d (.ms id 0 n.toNat n.toNat)) :=
  s_makeSlice Tryd.underlying71 sz5 by5 z5 rfl rfl (by decide) rfl
-- 72: struct { Kind uint8; Int int64; Str string; Items []uint8; Keys []string }
theorem rda72 {cs : List PV} {off : Nat} : readCells Tryd.prog 72 cs off = if off + 5 ≤ cs.length then some (.agg ((cs.drop off).take 5)) else none := rd_agg ag72 sz72
theorem alc72 {dr : Bool} {st : PS} {id tk : Nat} {K : PS → Prop} {d : Option Tmp} {ty : TypeId} {pos : String} {af : Array Edge} {g : Option (Nat × Bool)} : stepN dr Tryd.prog ⟨d, .alloc 72, ty, pos, af, g⟩ st id tk K = K (PS.put { st with heap := (id, .box 72 [.val (.int .u8 0), .val (.int .i64 0), .val (.string ByteArray.empty), .val (.slice none 0 0), .val (.slice none 0 0)]) :: st.heap } d (.ptr id 0)) := s_allocC z72 rfl rfl
theorem mki72 {dr : Bool} {st : PS} {id tk : Nat} {K : PS → Prop} {d : Option Tmp} {ty : TypeId} {pos : String} {af : Array Edge} {g : Option (Nat × Bool)} {x : Operand} : stepN dr Tryd.prog ⟨d, .makeInterface 72 x, ty, pos, af, g⟩ st id tk K = bindO (st.ev x) fun p => K (st.put d (.iface 72 p)) := s_makeIface Tryd.underlying72 rfl
theorem fa72_0 {st : PS} {x : Operand} {K : PV → Prop} : fieldAddrK Tryd.prog st 72 x 0 K = bindO (st.ev x) (fldP 0 K) :=
  fld_ (P := Tryd.prog) (st := st) (x := x) (K := K) (f := 0) Tryd.underlying72 rfl sz5 (by decide)
theorem fi72_0 {st : PS} {x : Operand} {K : PV → Prop} : fieldK Tryd.prog st 72 x 0 K = bindO (st.ev x) (fieldP Tryd.prog 5 0 K) :=
  field_ (P := Tryd.prog) (st := st) (x := x) (K := K) (f := 0) Tryd.underlying72 rfl
theorem fa72_1 {st : PS} {x : Operand} {K : PV → Prop} : fieldAddrK Tryd.prog st 72 x 1 K = bindO (st.ev x) (fldP 1 K) :=
  fld_ (P := Tryd.prog) (st := st) (x := x) (K := K) (f := 1) Tryd.underlying72 rfl sz2 (by decide)
theorem fi72_1 {st : PS} {x : Operand} {K : PV → Prop} : fieldK Tryd.prog st 72 x 1 K = bindO (st.ev x) (fieldP Tryd.prog 2 1 K) :=
  field_ (P := Tryd.prog) (st := st) (x := x) (K := K) (f := 1) Tryd.underlying72 rfl
theorem fa72_2 {st : PS} {x : Operand} {K : PV → Prop} : fieldAddrK Tryd.prog st 72 x 2 K = bindO (st.ev x) (fldP 2 K) :=
  fld_ (P := Tryd.prog) (st := st) (x := x) (K := K) (f := 2) Tryd.underlying72 rfl sz9 (by decide)
theorem fi72_2 {st : PS} {x : Operand} {K : PV → Prop} : fieldK Tryd.prog st 72 x 2 K = bindO (st.ev x) (fieldP Tryd.prog 9 2 K) :=
  field_ (P := Tryd.prog) (st := st) (x := x) (K := K) (f := 2) Tryd.underlying72 rfl
theorem fa72_3 {st : PS} {x : Operand} {K : PV → Prop} : fieldAddrK Tryd.prog st 72 x 3 K = bindO (st.ev x) (fldP 3 K) :=
  fld_ (P := Tryd.prog) (st := st) (x := x) (K := K) (f := 3) Tryd.underlying72 rfl sz71 (by decide)
theorem fi72_3 {st : PS} {x : Operand} {K : PV → Prop} : fieldK Tryd.prog st 72 x 3 K = bindO (st.ev x) (fieldP Tryd.prog 71 3 K) :=
  field_ (P := Tryd.prog) (st := st) (x := x) (K := K) (f := 3) Tryd.underlying72 rfl
theorem fa72_4 {st : PS} {x : Operand} {K : PV → Prop} : fieldAddrK Tryd.prog st 72 x 4 K = bindO (st.ev x) (fldP 4 K) :=
  fld_ (P := Tryd.prog) (st := st) (x := x) (K := K) (f := 4) Tryd.underlying72 rfl sz23 (by decide)
theorem fi72_4 {st : PS} {x : Operand} {K : PV → Prop} : fieldK Tryd.prog st 72 x 4 K = bindO (st.ev x) (fieldP Tryd.prog 23 4 K) :=
  field_ (P := Tryd.prog) (st := st) (x := x) (K := K) (f := 4) Tryd.underlying72 rfl
theorem bld72 {st : PS} {l : List (Nat × Operand)} {K : PV → Prop} : buildK Tryd.prog st 72 l K = bindO (evParts st l) fun ps => (ps.all fun e => match e.2 with | .tup _ => false | _ => true) = true ∧ bindO (fillP (fun i => [(0, 1), (1, 1), (2, 1), (3, 1), (4, 1)][i]?) [.val (.int .u8 0), .val (.int .i64 0), .val (.string ByteArray.empty), .val (.slice none 0 0), .val (.slice none 0 0)] ps) fun cs => K (.agg cs) :=
  buildC Tryd.underlying72 z72 (by kernel_rfl) rfl rfl
-- 73: chevallaw03.Node
theorem rda73 {cs : List PV} {off : Nat} : readCells Tryd.prog 73 cs off = if off + 5 ≤ cs.length then some (.agg ((cs.drop off).take 5)) else none := rd_agg ag73 sz73
theorem alc73 {dr : Bool} {st : PS} {id tk : Nat} {K : PS → Prop} {d : Option Tmp} {ty : TypeId} {pos : String} {af : Array Edge} {g : Option (Nat × Bool)} : stepN dr Tryd.prog ⟨d, .alloc 73, ty, pos, af, g⟩ st id tk K = K (PS.put { st with heap := (id, .box 73 [.val (.int .u8 0), .val (.int .i64 0), .val (.string ByteArray.empty), .val (.slice none 0 0), .val (.slice none 0 0)]) :: st.heap } d (.ptr id 0)) := s_allocC z73 rfl rfl
theorem mki73 {dr : Bool} {st : PS} {id tk : Nat} {K : PS → Prop} {d : Option Tmp} {ty : TypeId} {pos : String} {af : Array Edge} {g : Option (Nat × Bool)} {x : Operand} : stepN dr Tryd.prog ⟨d, .makeInterface 73 x, ty, pos, af, g⟩ st id tk K = bindO (st.ev x) fun p => K (st.put d (.iface 73 p)) := s_makeIface Tryd.underlying73 rfl
theorem fa73_0 {st : PS} {x : Operand} {K : PV → Prop} : fieldAddrK Tryd.prog st 73 x 0 K = bindO (st.ev x) (fldP 0 K) :=
  fld_ (P := Tryd.prog) (st := st) (x := x) (K := K) (f := 0) Tryd.underlying73 rfl sz5 (by decide)
theorem fi73_0 {st : PS} {x : Operand} {K : PV → Prop} : fieldK Tryd.prog st 73 x 0 K = bindO (st.ev x) (fieldP Tryd.prog 5 0 K) :=
  field_ (P := Tryd.prog) (st := st) (x := x) (K := K) (f := 0) Tryd.underlying73 rfl
theorem fa73_1 {st : PS} {x : Operand} {K : PV → Prop} : fieldAddrK Tryd.prog st 73 x 1 K = bindO (st.ev x) (fldP 1 K) :=
  fld_ (P := Tryd.prog) (st := st) (x := x) (K := K) (f := 1) Tryd.underlying73 rfl sz2 (by decide)
theorem fi73_1 {st : PS} {x : Operand} {K : PV → Prop} : fieldK Tryd.prog st 73 x 1 K = bindO (st.ev x) (fieldP Tryd.prog 2 1 K) :=
  field_ (P := Tryd.prog) (st := st) (x := x) (K := K) (f := 1) Tryd.underlying73 rfl
theorem fa73_2 {st : PS} {x : Operand} {K : PV → Prop} : fieldAddrK Tryd.prog st 73 x 2 K = bindO (st.ev x) (fldP 2 K) :=
  fld_ (P := Tryd.prog) (st := st) (x := x) (K := K) (f := 2) Tryd.underlying73 rfl sz9 (by decide)
theorem fi73_2 {st : PS} {x : Operand} {K : PV → Prop} : fieldK Tryd.prog st 73 x 2 K = bindO (st.ev x) (fieldP Tryd.prog 9 2 K) :=
  field_ (P := Tryd.prog) (st := st) (x := x) (K := K) (f := 2) Tryd.underlying73 rfl
theorem fa73_3 {st : PS} {x : Operand} {K : PV → Prop} : fieldAddrK Tryd.prog st 73 x 3 K = bindO (st.ev x) (fldP 3 K) :=
  fld_ (P := Tryd.prog) (st := st) (x := x) (K := K) (f := 3) Tryd.underlying73 rfl sz71 (by decide)
theorem fi73_3 {st : PS} {x : Operand} {K : PV → Prop} : fieldK Tryd.prog st 73 x 3 K = bindO (st.ev x) (fieldP Tryd.prog 71 3 K) :=
  field_ (P := Tryd.prog) (st := st) (x := x) (K := K) (f := 3) Tryd.underlying73 rfl
theorem fa73_4 {st : PS} {x : Operand} {K : PV → Prop} : fieldAddrK Tryd.prog st 73 x 4 K = bindO (st.ev x) (fldP 4 K) :=
  fld_ (P := Tryd.prog) (st := st) (x := x) (K := K) (f := 4) Tryd.underlying73 rfl sz23 (by decide)
theorem fi73_4 {st : PS} {x : Operand} {K : PV → Prop} : fieldK Tryd.prog st 73 x 4 K = bindO (st.ev x) (fieldP Tryd.prog 23 4 K) :=
  field_ (P := Tryd.prog) (st := st) (x := x) (K := K) (f := 4) Tryd.underlying73 rfl
theorem bld73 {st : PS} {l : List (Nat × Operand)} {K : PV → Prop} : buildK Tryd.prog st 73 l K = bindO (evParts st l) fun ps => (ps.all fun e => match e.2 with | .tup _ => false | _ => true) = true ∧ bindO (fillP (fun i => [(0, 1), (1, 1), (2, 1), (3, 1), (4, 1)][i]?) [.val (.int .u8 0), .val (.int .i64 0), .val (.string ByteArray.empty), .val (.slice none 0 0), .val (.slice none 0 0)] ps) fun cs => K (.agg cs) :=
  buildC Tryd.underlying73 z73 (by kernel_rfl) rfl rfl
-- 74: func(string) string
theorem rdo74 {cs : List PV} {off : Nat} : readCells Tryd.prog 74 cs off = cs[off]? := rd_one ag74
-- 75: func(chevalref03.V) int
theorem rdo75 {cs : List PV} {off : Nat} : readCells Tryd.prog 75 cs off = cs[off]? := rd_one ag75
-- 76: func(chevalref03.V, string, chevalref03.V) (chevalref03.V, bool)
theorem rdo76 {cs : List PV} {off : Nat} : readCells Tryd.prog 76 cs off = cs[off]? := rd_one ag76
-- 77: func(value.Value, string) int
theorem rdo77 {cs : List PV} {off : Nat} : readCells Tryd.prog 77 cs off = cs[off]? := rd_one ag77
-- 78: func() value.Value
theorem rdo78 {cs : List PV} {off : Nat} : readCells Tryd.prog 78 cs off = cs[off]? := rd_one ag78
-- 79: func(chevalref03.V, string) int
theorem rdo79 {cs : List PV} {off : Nat} : readCells Tryd.prog 79 cs off = cs[off]? := rd_one ag79
-- 80: func(chevalref02.N) string
theorem rdo80 {cs : List PV} {off : Nat} : readCells Tryd.prog 80 cs off = cs[off]? := rd_one ag80
-- 81: []int
theorem rdo81 {cs : List PV} {off : Nat} : readCells Tryd.prog 81 cs off = cs[off]? := rd_one ag81
theorem alc81 {dr : Bool} {st : PS} {id tk : Nat} {K : PS → Prop} {d : Option Tmp} {ty : TypeId} {pos : String} {af : Array Edge} {g : Option (Nat × Bool)} : stepN dr Tryd.prog ⟨d, .alloc 81, ty, pos, af, g⟩ st id tk K = K (PS.put { st with heap := (id, .box 81 [.val (.slice none 0 0)]) :: st.heap } d (.ptr id 0)) := s_allocC z81 rfl rfl
theorem lns81 {st : PS} {x : Operand} {K : PV → Prop} : lenK Tryd.prog st 81 x K = bindO (st.ev x) (lenP K) := len_slice Tryd.underlying81
theorem ixs81 {st : PS} {x y : Operand} {K : PV → Prop} : indexAddrK Tryd.prog st 81 x y K = bindO (st.ev x) fun p => bindO (st.ev y) fun q => intK q fun i => ixP 1 i K p := ix_slice Tryd.underlying81 sz3
theorem sls81 {st : PS} {x : Operand} {lo hi : Option Operand} {K : PV → Prop} : sliceK Tryd.prog st 81 x lo hi K = bindO (st.ev x) (slcP 1 st lo hi K) := slc_slice Tryd.underlying81 sz3
theorem app81 {st : PS} {tk : Nat} {x y : Operand} {K : Delta → Prop} : appendK Tryd.prog st tk ⟨.builtin .append, #[x, y], #[81, 81]⟩ K = bindO (st.ev x) fun d => bindO (st.ev y) fun s => bindO (srcXs st 1 s) fun ys0 => bindO (fzLL ys0) fun ys => (∀ y ∈ ys, y.length = 1) ∧ appT 3 1 8 st tk K d ys :=
  append_t Tryd.underlying81 sz3 by3 z3 rfl (by decide)
theorem bs81 {dr : Bool} {st : PS} {id tk n : Nat} {K : PS → Prop} {d : Option Tmp} {ty : TypeId} {pos : String} {af : Array Edge} {g : Option (Nat × Bool)} {l : List (Nat × Operand)} :
    stepN dr Tryd.prog ⟨d, .buildSlice 81 n l.toArray, ty, pos, af, g⟩ st id tk K = bindO (evParts st l) fun ps => bindO (valsOf ps 0) fun xs => (∀ x ∈ xs, x.length = 1) ∧ xs.length = n ∧ n * 1 ≤ 16777216 ∧ K (PS.put { st with toks := upd st.toks tk ⟨3, 1, n⟩ } d (.row tk xs)) :=
  s_buildSlice Tryd.underlying81 sz3 z3 (by decide) rfl
theorem mks81 {dr : Bool} {st : PS} {id tk : Nat} {K : PS → Prop} {d : Option Tmp} {ty : TypeId} {pos : String} {af : Array Edge} {g : Option (Nat × Bool)} {l c : Operand} : stepN dr Tryd.prog ⟨d, .makeSlice 81 l c, ty, pos, af, g⟩ st id tk K = bindO (st.ev l) fun p => bindO (st.ev c) fun q => intK p fun n => intK q fun m => n = m ∧ 0 ≤ n ∧ n ≤ 9223372036854775807 ∧ 8 * n ≤ 281474976710656 ∧
    K (PS.put { st with heap := (id, .box 3 ((List.range (n.toNat * 1)).map fun i => [.val (.int .i64 0)].getD (i % 1) (.val .nilIface))) :: st.heap } d (.ms id 0 n.toNat n.toNat)) :=
  s_makeSlice Tryd.underlying81 sz3 by3 z3 rfl rfl (by decide) rfl
-- 82: struct { Below bool; Figures []int }
theorem rda82 {cs : List PV} {off : Nat} : readCells Tryd.prog 82 cs off = if off + 2 ≤ cs.length then some (.agg ((cs.drop off).take 2)) else none := rd_agg ag82 sz82
theorem alc82 {dr : Bool} {st : PS} {id tk : Nat} {K : PS → Prop} {d : Option Tmp} {ty : TypeId} {pos : String} {af : Array Edge} {g : Option (Nat × Bool)} : stepN dr Tryd.prog ⟨d, .alloc 82, ty, pos, af, g⟩ st id tk K = K (PS.put { st with heap := (id, .box 82 [.val (.bool false), .val (.slice none 0 0)]) :: st.heap } d (.ptr id 0)) := s_allocC z82 rfl rfl
theorem mki82 {dr : Bool} {st : PS} {id tk : Nat} {K : PS → Prop} {d : Option Tmp} {ty : TypeId} {pos : String} {af : Array Edge} {g : Option (Nat × Bool)} {x : Operand} : stepN dr Tryd.prog ⟨d, .makeInterface 82 x, ty, pos, af, g⟩ st id tk K = bindO (st.ev x) fun p => K (st.put d (.iface 82 p)) := s_makeIface Tryd.underlying82 rfl
theorem fa82_0 {st : PS} {x : Operand} {K : PV → Prop} : fieldAddrK Tryd.prog st 82 x 0 K = bindO (st.ev x) (fldP 0 K) :=
  fld_ (P := Tryd.prog) (st := st) (x := x) (K := K) (f := 0) Tryd.underlying82 rfl sz4 (by decide)
theorem fi82_0 {st : PS} {x : Operand} {K : PV → Prop} : fieldK Tryd.prog st 82 x 0 K = bindO (st.ev x) (fieldP Tryd.prog 4 0 K) :=
  field_ (P := Tryd.prog) (st := st) (x := x) (K := K) (f := 0) Tryd.underlying82 rfl
theorem fa82_1 {st : PS} {x : Operand} {K : PV → Prop} : fieldAddrK Tryd.prog st 82 x 1 K = bindO (st.ev x) (fldP 1 K) :=
  fld_ (P := Tryd.prog) (st := st) (x := x) (K := K) (f := 1) Tryd.underlying82 rfl sz81 (by decide)
theorem fi82_1 {st : PS} {x : Operand} {K : PV → Prop} : fieldK Tryd.prog st 82 x 1 K = bindO (st.ev x) (fieldP Tryd.prog 81 1 K) :=
  field_ (P := Tryd.prog) (st := st) (x := x) (K := K) (f := 1) Tryd.underlying82 rfl
theorem bld82 {st : PS} {l : List (Nat × Operand)} {K : PV → Prop} : buildK Tryd.prog st 82 l K = bindO (evParts st l) fun ps => (ps.all fun e => match e.2 with | .tup _ => false | _ => true) = true ∧ bindO (fillP (fun i => [(0, 1), (1, 1)][i]?) [.val (.bool false), .val (.slice none 0 0)] ps) fun cs => K (.agg cs) :=
  buildC Tryd.underlying82 z82 (by kernel_rfl) rfl rfl
-- 83: chevalref02.N
theorem rda83 {cs : List PV} {off : Nat} : readCells Tryd.prog 83 cs off = if off + 2 ≤ cs.length then some (.agg ((cs.drop off).take 2)) else none := rd_agg ag83 sz83
theorem alc83 {dr : Bool} {st : PS} {id tk : Nat} {K : PS → Prop} {d : Option Tmp} {ty : TypeId} {pos : String} {af : Array Edge} {g : Option (Nat × Bool)} : stepN dr Tryd.prog ⟨d, .alloc 83, ty, pos, af, g⟩ st id tk K = K (PS.put { st with heap := (id, .box 83 [.val (.bool false), .val (.slice none 0 0)]) :: st.heap } d (.ptr id 0)) := s_allocC z83 rfl rfl
theorem mki83 {dr : Bool} {st : PS} {id tk : Nat} {K : PS → Prop} {d : Option Tmp} {ty : TypeId} {pos : String} {af : Array Edge} {g : Option (Nat × Bool)} {x : Operand} : stepN dr Tryd.prog ⟨d, .makeInterface 83 x, ty, pos, af, g⟩ st id tk K = bindO (st.ev x) fun p => K (st.put d (.iface 83 p)) := s_makeIface Tryd.underlying83 rfl
theorem fa83_0 {st : PS} {x : Operand} {K : PV → Prop} : fieldAddrK Tryd.prog st 83 x 0 K = bindO (st.ev x) (fldP 0 K) :=
  fld_ (P := Tryd.prog) (st := st) (x := x) (K := K) (f := 0) Tryd.underlying83 rfl sz4 (by decide)
theorem fi83_0 {st : PS} {x : Operand} {K : PV → Prop} : fieldK Tryd.prog st 83 x 0 K = bindO (st.ev x) (fieldP Tryd.prog 4 0 K) :=
  field_ (P := Tryd.prog) (st := st) (x := x) (K := K) (f := 0) Tryd.underlying83 rfl
theorem fa83_1 {st : PS} {x : Operand} {K : PV → Prop} : fieldAddrK Tryd.prog st 83 x 1 K = bindO (st.ev x) (fldP 1 K) :=
  fld_ (P := Tryd.prog) (st := st) (x := x) (K := K) (f := 1) Tryd.underlying83 rfl sz81 (by decide)
theorem fi83_1 {st : PS} {x : Operand} {K : PV → Prop} : fieldK Tryd.prog st 83 x 1 K = bindO (st.ev x) (fieldP Tryd.prog 81 1 K) :=
  field_ (P := Tryd.prog) (st := st) (x := x) (K := K) (f := 1) Tryd.underlying83 rfl
theorem bld83 {st : PS} {l : List (Nat × Operand)} {K : PV → Prop} : buildK Tryd.prog st 83 l K = bindO (evParts st l) fun ps => (ps.all fun e => match e.2 with | .tup _ => false | _ => true) = true ∧ bindO (fillP (fun i => [(0, 1), (1, 1)][i]?) [.val (.bool false), .val (.slice none 0 0)] ps) fun cs => K (.agg cs) :=
  buildC Tryd.underlying83 z83 (by kernel_rfl) rfl rfl
-- 84: func(int64) chevalref02.N
theorem rdo84 {cs : List PV} {off : Nat} : readCells Tryd.prog 84 cs off = cs[off]? := rd_one ag84
-- 85: func(value.Value, []string, func([]string, value.Value) bool) bool
theorem rdo85 {cs : List PV} {off : Nat} : readCells Tryd.prog 85 cs off = cs[off]? := rd_one ag85
-- 86: func(value.Value, []string, func(*value.Value, int)) (value.Value, api.Errno)
theorem rdo86 {cs : List PV} {off : Nat} : readCells Tryd.prog 86 cs off = cs[off]? := rd_one ag86
-- 87: *value.Value
theorem rdo87 {cs : List PV} {off : Nat} : readCells Tryd.prog 87 cs off = cs[off]? := rd_one ag87
theorem alc87 {dr : Bool} {st : PS} {id tk : Nat} {K : PS → Prop} {d : Option Tmp} {ty : TypeId} {pos : String} {af : Array Edge} {g : Option (Nat × Bool)} : stepN dr Tryd.prog ⟨d, .alloc 87, ty, pos, af, g⟩ st id tk K = K (PS.put { st with heap := (id, .box 87 [.val (.pointer none)]) :: st.heap } d (.ptr id 0)) := s_allocC z87 rfl rfl
theorem mki87 {dr : Bool} {st : PS} {id tk : Nat} {K : PS → Prop} {d : Option Tmp} {ty : TypeId} {pos : String} {af : Array Edge} {g : Option (Nat × Bool)} {x : Operand} : stepN dr Tryd.prog ⟨d, .makeInterface 87 x, ty, pos, af, g⟩ st id tk K = bindO (st.ev x) fun p => K (st.put d (.iface 87 p)) := s_makeIface Tryd.underlying87 rfl
-- 88: func(*value.Value, int)
theorem rdo88 {cs : List PV} {off : Nat} : readCells Tryd.prog 88 cs off = cs[off]? := rd_one ag88
-- 89: func([]value.Value, int, int) []value.Value
theorem rdo89 {cs : List PV} {off : Nat} : readCells Tryd.prog 89 cs off = cs[off]? := rd_one ag89
-- 90: func([]string, int, int) []string
theorem rdo90 {cs : List PV} {off : Nat} : readCells Tryd.prog 90 cs off = cs[off]? := rd_one ag90
-- 91: func([]value.Value, func(value.Value) bool) bool
theorem rdo91 {cs : List PV} {off : Nat} : readCells Tryd.prog 91 cs off = cs[off]? := rd_one ag91
-- 92: func(value.Value) bool
theorem rdo92 {cs : List PV} {off : Nat} : readCells Tryd.prog 92 cs off = cs[off]? := rd_one ag92
-- 94: func(string) (int, bool)
theorem rdo94 {cs : List PV} {off : Nat} : readCells Tryd.prog 94 cs off = cs[off]? := rd_one ag94
-- 95: func(string, string) []string
theorem rdo95 {cs : List PV} {off : Nat} : readCells Tryd.prog 95 cs off = cs[off]? := rd_one ag95
-- 97: func(string) (string, int)
theorem rdo97 {cs : List PV} {off : Nat} : readCells Tryd.prog 97 cs off = cs[off]? := rd_one ag97
-- 99: func(string) ([]int, int)
theorem rdo99 {cs : List PV} {off : Nat} : readCells Tryd.prog 99 cs off = cs[off]? := rd_one ag99
-- 100: func([]string, func(string) bool) bool
theorem rdo100 {cs : List PV} {off : Nat} : readCells Tryd.prog 100 cs off = cs[off]? := rd_one ag100
-- 101: func([]string, string) (int, bool)
theorem rdo101 {cs : List PV} {off : Nat} : readCells Tryd.prog 101 cs off = cs[off]? := rd_one ag101
-- 102: func([]string, int, ...string) []string
theorem rdo102 {cs : List PV} {off : Nat} : readCells Tryd.prog 102 cs off = cs[off]? := rd_one ag102
-- 103: func([]value.Value, int, ...value.Value) []value.Value
theorem rdo103 {cs : List PV} {off : Nat} : readCells Tryd.prog 103 cs off = cs[off]? := rd_one ag103
-- 104: func([]value.Value) []value.Value
theorem rdo104 {cs : List PV} {off : Nat} : readCells Tryd.prog 104 cs off = cs[off]? := rd_one ag104
-- 105: Error
theorem rdo105 {cs : List PV} {off : Nat} : readCells Tryd.prog 105 cs off = cs[off]? := rd_one ag105
theorem alc105 {dr : Bool} {st : PS} {id tk : Nat} {K : PS → Prop} {d : Option Tmp} {ty : TypeId} {pos : String} {af : Array Edge} {g : Option (Nat × Bool)} : stepN dr Tryd.prog ⟨d, .alloc 105, ty, pos, af, g⟩ st id tk K = K (PS.put { st with heap := (id, .box 105 [.val (.nilIface)]) :: st.heap } d (.ptr id 0)) := s_allocC z105 rfl rfl
theorem ifx105 : (∃ ms, Tryd.prog.underlying 105 = some (.interface ms)) = True := eq_true ⟨_, Tryd.underlying105⟩
-- 106: error
theorem rdo106 {cs : List PV} {off : Nat} : readCells Tryd.prog 106 cs off = cs[off]? := rd_one ag106
theorem alc106 {dr : Bool} {st : PS} {id tk : Nat} {K : PS → Prop} {d : Option Tmp} {ty : TypeId} {pos : String} {af : Array Edge} {g : Option (Nat × Bool)} : stepN dr Tryd.prog ⟨d, .alloc 106, ty, pos, af, g⟩ st id tk K = K (PS.put { st with heap := (id, .box 106 [.val (.nilIface)]) :: st.heap } d (.ptr id 0)) := s_allocC z106 rfl rfl
theorem ifx106 : (∃ ms, Tryd.prog.underlying 106 = some (.interface ms)) = True := eq_true ⟨_, Tryd.underlying106⟩
-- 108: func(string) (int, error)
theorem rdo108 {cs : List PV} {off : Nat} : readCells Tryd.prog 108 cs off = cs[off]? := rd_one ag108
-- 109: func(int) string
theorem rdo109 {cs : List PV} {off : Nat} : readCells Tryd.prog 109 cs off = cs[off]? := rd_one ag109
-- 110: func([]string) []string
theorem rdo110 {cs : List PV} {off : Nat} : readCells Tryd.prog 110 cs off = cs[off]? := rd_one ag110
-- 111: func([]value.Value, func(value.Value) bool) int
theorem rdo111 {cs : List PV} {off : Nat} : readCells Tryd.prog 111 cs off = cs[off]? := rd_one ag111
-- 112: func(string, func(int)) int
theorem rdo112 {cs : List PV} {off : Nat} : readCells Tryd.prog 112 cs off = cs[off]? := rd_one ag112
-- 113: func(int)
theorem rdo113 {cs : List PV} {off : Nat} : readCells Tryd.prog 113 cs off = cs[off]? := rd_one ag113
-- 114: func(string, string, int, int) []string
theorem rdo114 {cs : List PV} {off : Nat} : readCells Tryd.prog 114 cs off = cs[off]? := rd_one ag114
-- 115: *strings.Builder
theorem rdo115 {cs : List PV} {off : Nat} : readCells Tryd.prog 115 cs off = cs[off]? := rd_one ag115
theorem alc115 {dr : Bool} {st : PS} {id tk : Nat} {K : PS → Prop} {d : Option Tmp} {ty : TypeId} {pos : String} {af : Array Edge} {g : Option (Nat × Bool)} : stepN dr Tryd.prog ⟨d, .alloc 115, ty, pos, af, g⟩ st id tk K = K (PS.put { st with heap := (id, .box 115 [.val (.pointer none)]) :: st.heap } d (.ptr id 0)) := s_allocC z115 rfl rfl
theorem mki115 {dr : Bool} {st : PS} {id tk : Nat} {K : PS → Prop} {d : Option Tmp} {ty : TypeId} {pos : String} {af : Array Edge} {g : Option (Nat × Bool)} {x : Operand} : stepN dr Tryd.prog ⟨d, .makeInterface 115 x, ty, pos, af, g⟩ st id tk K = bindO (st.ev x) fun p => K (st.put d (.iface 115 p)) := s_makeIface Tryd.underlying115 rfl
-- 116: struct { addr *strings.Builder; buf []uint8 }
theorem rda116 {cs : List PV} {off : Nat} : readCells Tryd.prog 116 cs off = if off + 2 ≤ cs.length then some (.agg ((cs.drop off).take 2)) else none := rd_agg ag116 sz116
theorem alc116 {dr : Bool} {st : PS} {id tk : Nat} {K : PS → Prop} {d : Option Tmp} {ty : TypeId} {pos : String} {af : Array Edge} {g : Option (Nat × Bool)} : stepN dr Tryd.prog ⟨d, .alloc 116, ty, pos, af, g⟩ st id tk K = K (PS.put { st with heap := (id, .box 116 [.val (.pointer none), .val (.slice none 0 0)]) :: st.heap } d (.ptr id 0)) := s_allocC z116 rfl rfl
theorem mki116 {dr : Bool} {st : PS} {id tk : Nat} {K : PS → Prop} {d : Option Tmp} {ty : TypeId} {pos : String} {af : Array Edge} {g : Option (Nat × Bool)} {x : Operand} : stepN dr Tryd.prog ⟨d, .makeInterface 116 x, ty, pos, af, g⟩ st id tk K = bindO (st.ev x) fun p => K (st.put d (.iface 116 p)) := s_makeIface Tryd.underlying116 rfl
theorem fa116_0 {st : PS} {x : Operand} {K : PV → Prop} : fieldAddrK Tryd.prog st 116 x 0 K = bindO (st.ev x) (fldP 0 K) :=
  fld_ (P := Tryd.prog) (st := st) (x := x) (K := K) (f := 0) Tryd.underlying116 rfl sz115 (by decide)
theorem fi116_0 {st : PS} {x : Operand} {K : PV → Prop} : fieldK Tryd.prog st 116 x 0 K = bindO (st.ev x) (fieldP Tryd.prog 115 0 K) :=
  field_ (P := Tryd.prog) (st := st) (x := x) (K := K) (f := 0) Tryd.underlying116 rfl
theorem fa116_1 {st : PS} {x : Operand} {K : PV → Prop} : fieldAddrK Tryd.prog st 116 x 1 K = bindO (st.ev x) (fldP 1 K) :=
  fld_ (P := Tryd.prog) (st := st) (x := x) (K := K) (f := 1) Tryd.underlying116 rfl sz71 (by decide)
theorem fi116_1 {st : PS} {x : Operand} {K : PV → Prop} : fieldK Tryd.prog st 116 x 1 K = bindO (st.ev x) (fieldP Tryd.prog 71 1 K) :=
  field_ (P := Tryd.prog) (st := st) (x := x) (K := K) (f := 1) Tryd.underlying116 rfl
theorem bld116 {st : PS} {l : List (Nat × Operand)} {K : PV → Prop} : buildK Tryd.prog st 116 l K = bindO (evParts st l) fun ps => (ps.all fun e => match e.2 with | .tup _ => false | _ => true) = true ∧ bindO (fillP (fun i => [(0, 1), (1, 1)][i]?) [.val (.pointer none), .val (.slice none 0 0)] ps) fun cs => K (.agg cs) :=
  buildC Tryd.underlying116 z116 (by kernel_rfl) rfl rfl
-- 117: strings.Builder
theorem rda117 {cs : List PV} {off : Nat} : readCells Tryd.prog 117 cs off = if off + 2 ≤ cs.length then some (.agg ((cs.drop off).take 2)) else none := rd_agg ag117 sz117
theorem alc117 {dr : Bool} {st : PS} {id tk : Nat} {K : PS → Prop} {d : Option Tmp} {ty : TypeId} {pos : String} {af : Array Edge} {g : Option (Nat × Bool)} : stepN dr Tryd.prog ⟨d, .alloc 117, ty, pos, af, g⟩ st id tk K = K (PS.put { st with heap := (id, .box 117 [.val (.pointer none), .val (.slice none 0 0)]) :: st.heap } d (.ptr id 0)) := s_allocC z117 rfl rfl
theorem mki117 {dr : Bool} {st : PS} {id tk : Nat} {K : PS → Prop} {d : Option Tmp} {ty : TypeId} {pos : String} {af : Array Edge} {g : Option (Nat × Bool)} {x : Operand} : stepN dr Tryd.prog ⟨d, .makeInterface 117 x, ty, pos, af, g⟩ st id tk K = bindO (st.ev x) fun p => K (st.put d (.iface 117 p)) := s_makeIface Tryd.underlying117 rfl
theorem fa117_0 {st : PS} {x : Operand} {K : PV → Prop} : fieldAddrK Tryd.prog st 117 x 0 K = bindO (st.ev x) (fldP 0 K) :=
  fld_ (P := Tryd.prog) (st := st) (x := x) (K := K) (f := 0) Tryd.underlying117 rfl sz115 (by decide)
theorem fi117_0 {st : PS} {x : Operand} {K : PV → Prop} : fieldK Tryd.prog st 117 x 0 K = bindO (st.ev x) (fieldP Tryd.prog 115 0 K) :=
  field_ (P := Tryd.prog) (st := st) (x := x) (K := K) (f := 0) Tryd.underlying117 rfl
theorem fa117_1 {st : PS} {x : Operand} {K : PV → Prop} : fieldAddrK Tryd.prog st 117 x 1 K = bindO (st.ev x) (fldP 1 K) :=
  fld_ (P := Tryd.prog) (st := st) (x := x) (K := K) (f := 1) Tryd.underlying117 rfl sz71 (by decide)
theorem fi117_1 {st : PS} {x : Operand} {K : PV → Prop} : fieldK Tryd.prog st 117 x 1 K = bindO (st.ev x) (fieldP Tryd.prog 71 1 K) :=
  field_ (P := Tryd.prog) (st := st) (x := x) (K := K) (f := 1) Tryd.underlying117 rfl
theorem bld117 {st : PS} {l : List (Nat × Operand)} {K : PV → Prop} : buildK Tryd.prog st 117 l K = bindO (evParts st l) fun ps => (ps.all fun e => match e.2 with | .tup _ => false | _ => true) = true ∧ bindO (fillP (fun i => [(0, 1), (1, 1)][i]?) [.val (.pointer none), .val (.slice none 0 0)] ps) fun cs => K (.agg cs) :=
  buildC Tryd.underlying117 z117 (by kernel_rfl) rfl rfl
-- 118: func(uint8) error
theorem rdo118 {cs : List PV} {off : Nat} : readCells Tryd.prog 118 cs off = cs[off]? := rd_one ag118
-- 119: func() string
theorem rdo119 {cs : List PV} {off : Nat} : readCells Tryd.prog 119 cs off = cs[off]? := rd_one ag119
-- 121: func(string, int) (int, int)
theorem rdo121 {cs : List PV} {off : Nat} : readCells Tryd.prog 121 cs off = cs[off]? := rd_one ag121
-- 122: func([]string, func(string) bool) int
theorem rdo122 {cs : List PV} {off : Nat} : readCells Tryd.prog 122 cs off = cs[off]? := rd_one ag122
-- 123: uint
theorem rdo123 {cs : List PV} {off : Nat} : readCells Tryd.prog 123 cs off = cs[off]? := rd_one ag123
theorem alc123 {dr : Bool} {st : PS} {id tk : Nat} {K : PS → Prop} {d : Option Tmp} {ty : TypeId} {pos : String} {af : Array Edge} {g : Option (Nat × Bool)} : stepN dr Tryd.prog ⟨d, .alloc 123, ty, pos, af, g⟩ st id tk K = K (PS.put { st with heap := (id, .box 123 [.val (.int .u64 0)]) :: st.heap } d (.ptr id 0)) := s_allocC z123 rfl rfl
theorem mki123 {dr : Bool} {st : PS} {id tk : Nat} {K : PS → Prop} {d : Option Tmp} {ty : TypeId} {pos : String} {af : Array Edge} {g : Option (Nat × Bool)} {x : Operand} : stepN dr Tryd.prog ⟨d, .makeInterface 123 x, ty, pos, af, g⟩ st id tk K = bindO (st.ev x) fun p => K (st.put d (.iface 123 p)) := s_makeIface Tryd.underlying123 rfl
-- 124: func(string, string) bool
theorem rdo124 {cs : List PV} {off : Nat} : readCells Tryd.prog 124 cs off = cs[off]? := rd_one ag124
-- 125: func([]string, int)
theorem rdo125 {cs : List PV} {off : Nat} : readCells Tryd.prog 125 cs off = cs[off]? := rd_one ag125
-- 126: func([]value.Value, []value.Value) bool
theorem rdo126 {cs : List PV} {off : Nat} : readCells Tryd.prog 126 cs off = cs[off]? := rd_one ag126
-- 127: func([]value.Value, int)
theorem rdo127 {cs : List PV} {off : Nat} : readCells Tryd.prog 127 cs off = cs[off]? := rd_one ag127
-- 128: func(string, string, int, int, error) error
theorem rdo128 {cs : List PV} {off : Nat} : readCells Tryd.prog 128 cs off = cs[off]? := rd_one ag128
-- 129: func(string) (int, int)
theorem rdo129 {cs : List PV} {off : Nat} : readCells Tryd.prog 129 cs off = cs[off]? := rd_one ag129
-- 130: func(string, int) []string
theorem rdo130 {cs : List PV} {off : Nat} : readCells Tryd.prog 130 cs off = cs[off]? := rd_one ag130
-- 131: func(string, string) int
theorem rdo131 {cs : List PV} {off : Nat} : readCells Tryd.prog 131 cs off = cs[off]? := rd_one ag131
-- 132: *uint8
theorem rdo132 {cs : List PV} {off : Nat} : readCells Tryd.prog 132 cs off = cs[off]? := rd_one ag132
theorem alc132 {dr : Bool} {st : PS} {id tk : Nat} {K : PS → Prop} {d : Option Tmp} {ty : TypeId} {pos : String} {af : Array Edge} {g : Option (Nat × Bool)} : stepN dr Tryd.prog ⟨d, .alloc 132, ty, pos, af, g⟩ st id tk K = K (PS.put { st with heap := (id, .box 132 [.val (.pointer none)]) :: st.heap } d (.ptr id 0)) := s_allocC z132 rfl rfl
theorem mki132 {dr : Bool} {st : PS} {id tk : Nat} {K : PS → Prop} {d : Option Tmp} {ty : TypeId} {pos : String} {af : Array Edge} {g : Option (Nat × Bool)} {x : Operand} : stepN dr Tryd.prog ⟨d, .makeInterface 132 x, ty, pos, af, g⟩ st id tk K = bindO (st.ev x) fun p => K (st.put d (.iface 132 p)) := s_makeIface Tryd.underlying132 rfl
-- 133: [5]int
theorem rda133 {cs : List PV} {off : Nat} : readCells Tryd.prog 133 cs off = if off + 5 ≤ cs.length then some (.agg ((cs.drop off).take 5)) else none := rd_agg ag133 sz133
theorem alc133 {dr : Bool} {st : PS} {id tk : Nat} {K : PS → Prop} {d : Option Tmp} {ty : TypeId} {pos : String} {af : Array Edge} {g : Option (Nat × Bool)} : stepN dr Tryd.prog ⟨d, .alloc 133, ty, pos, af, g⟩ st id tk K = K (PS.put { st with heap := (id, .box 133 [.val (.int .i64 0), .val (.int .i64 0), .val (.int .i64 0), .val (.int .i64 0), .val (.int .i64 0)]) :: st.heap } d (.ptr id 0)) := s_allocC z133 rfl rfl
theorem lns133 {st : PS} {x : Operand} {K : PV → Prop} : lenK Tryd.prog st 133 x K = K (.val (.int .i64 (5 : Nat))) := len_array Tryd.underlying133
theorem ixs133 {st : PS} {x y : Operand} {K : PV → Prop} : indexAddrK Tryd.prog st 133 x y K = bindO (st.ev x) fun p => bindO (st.ev y) fun q => intK q fun i => ixA 1 5 i K p := ix_array Tryd.underlying133 sz3
theorem bld133 {st : PS} {l : List (Nat × Operand)} {K : PV → Prop} : buildK Tryd.prog st 133 l K = bindO (evParts st l) fun ps => (ps.all fun e => match e.2 with | .tup _ => false | _ => true) = true ∧ bindO (fillP (fun i => some (i * 1, 1)) [.val (.int .i64 0), .val (.int .i64 0), .val (.int .i64 0), .val (.int .i64 0), .val (.int .i64 0)] ps) fun cs => K (.agg cs) :=
  buildA Tryd.underlying133 z133 sz3 rfl rfl
-- 134: func(int) bool
theorem rdo134 {cs : List PV} {off : Nat} : readCells Tryd.prog 134 cs off = cs[off]? := rd_one ag134
-- 135: func(int) []int
theorem rdo135 {cs : List PV} {off : Nat} : readCells Tryd.prog 135 cs off = cs[off]? := rd_one ag135
-- 136: strconv.Error
theorem rdo136 {cs : List PV} {off : Nat} : readCells Tryd.prog 136 cs off = cs[off]? := rd_one ag136
theorem alc136 {dr : Bool} {st : PS} {id tk : Nat} {K : PS → Prop} {d : Option Tmp} {ty : TypeId} {pos : String} {af : Array Edge} {g : Option (Nat × Bool)} : stepN dr Tryd.prog ⟨d, .alloc 136, ty, pos, af, g⟩ st id tk K = K (PS.put { st with heap := (id, .box 136 [.val (.int .i64 0)]) :: st.heap } d (.ptr id 0)) := s_allocC z136 rfl rfl
theorem mki136 {dr : Bool} {st : PS} {id tk : Nat} {K : PS → Prop} {d : Option Tmp} {ty : TypeId} {pos : String} {af : Array Edge} {g : Option (Nat × Bool)} {x : Operand} : stepN dr Tryd.prog ⟨d, .makeInterface 136 x, ty, pos, af, g⟩ st id tk K = bindO (st.ev x) fun p => K (st.put d (.iface 136 p)) := s_makeIface Tryd.underlying136 rfl
-- 138: func(string, int, int) (int64, error)
theorem rdo138 {cs : List PV} {off : Nat} : readCells Tryd.prog 138 cs off = cs[off]? := rd_one ag138
-- 139: *strconv.NumError
theorem rdo139 {cs : List PV} {off : Nat} : readCells Tryd.prog 139 cs off = cs[off]? := rd_one ag139
theorem alc139 {dr : Bool} {st : PS} {id tk : Nat} {K : PS → Prop} {d : Option Tmp} {ty : TypeId} {pos : String} {af : Array Edge} {g : Option (Nat × Bool)} : stepN dr Tryd.prog ⟨d, .alloc 139, ty, pos, af, g⟩ st id tk K = K (PS.put { st with heap := (id, .box 139 [.val (.pointer none)]) :: st.heap } d (.ptr id 0)) := s_allocC z139 rfl rfl
theorem mki139 {dr : Bool} {st : PS} {id tk : Nat} {K : PS → Prop} {d : Option Tmp} {ty : TypeId} {pos : String} {af : Array Edge} {g : Option (Nat × Bool)} {x : Operand} : stepN dr Tryd.prog ⟨d, .makeInterface 139 x, ty, pos, af, g⟩ st id tk K = bindO (st.ev x) fun p => K (st.put d (.iface 139 p)) := s_makeIface Tryd.underlying139 rfl
-- 140: func(string, string) *strconv.NumError
theorem rdo140 {cs : List PV} {off : Nat} : readCells Tryd.prog 140 cs off = cs[off]? := rd_one ag140
-- 141: func(string, string, int) *strconv.NumError
theorem rdo141 {cs : List PV} {off : Nat} : readCells Tryd.prog 141 cs off = cs[off]? := rd_one ag141
-- 142: func(int64, int) string
theorem rdo142 {cs : List PV} {off : Nat} : readCells Tryd.prog 142 cs off = cs[off]? := rd_one ag142
-- 143: func(int32) int
theorem rdo143 {cs : List PV} {off : Nat} : readCells Tryd.prog 143 cs off = cs[off]? := rd_one ag143
-- 144: func(string) int
theorem rdo144 {cs : List PV} {off : Nat} : readCells Tryd.prog 144 cs off = cs[off]? := rd_one ag144
-- 146: func(string) (int32, int)
theorem rdo146 {cs : List PV} {off : Nat} : readCells Tryd.prog 146 cs off = cs[off]? := rd_one ag146
-- 147: func(string, uint8) int
theorem rdo147 {cs : List PV} {off : Nat} : readCells Tryd.prog 147 cs off = cs[off]? := rd_one ag147
-- 149: func(unsafe.Pointer) unsafe.Pointer
theorem rdo149 {cs : List PV} {off : Nat} : readCells Tryd.prog 149 cs off = cs[off]? := rd_one ag149
-- 150: func([]string)
theorem rdo150 {cs : List PV} {off : Nat} : readCells Tryd.prog 150 cs off = cs[off]? := rd_one ag150
-- 151: func([]value.Value)
theorem rdo151 {cs : List PV} {off : Nat} : readCells Tryd.prog 151 cs off = cs[off]? := rd_one ag151
-- 152: uint64
theorem rdo152 {cs : List PV} {off : Nat} : readCells Tryd.prog 152 cs off = cs[off]? := rd_one ag152
theorem alc152 {dr : Bool} {st : PS} {id tk : Nat} {K : PS → Prop} {d : Option Tmp} {ty : TypeId} {pos : String} {af : Array Edge} {g : Option (Nat × Bool)} : stepN dr Tryd.prog ⟨d, .alloc 152, ty, pos, af, g⟩ st id tk K = K (PS.put { st with heap := (id, .box 152 [.val (.int .u64 0)]) :: st.heap } d (.ptr id 0)) := s_allocC z152 rfl rfl
theorem mki152 {dr : Bool} {st : PS} {id tk : Nat} {K : PS → Prop} {d : Option Tmp} {ty : TypeId} {pos : String} {af : Array Edge} {g : Option (Nat × Bool)} {x : Operand} : stepN dr Tryd.prog ⟨d, .makeInterface 152 x, ty, pos, af, g⟩ st id tk K = bindO (st.ev x) fun p => K (st.put d (.iface 152 p)) := s_makeIface Tryd.underlying152 rfl
-- 154: func(string, int, int) (uint64, error)
theorem rdo154 {cs : List PV} {off : Nat} : readCells Tryd.prog 154 cs off = cs[off]? := rd_one ag154
-- 155: struct { Func string; Num string; Err error }
theorem rda155 {cs : List PV} {off : Nat} : readCells Tryd.prog 155 cs off = if off + 3 ≤ cs.length then some (.agg ((cs.drop off).take 3)) else none := rd_agg ag155 sz155
theorem alc155 {dr : Bool} {st : PS} {id tk : Nat} {K : PS → Prop} {d : Option Tmp} {ty : TypeId} {pos : String} {af : Array Edge} {g : Option (Nat × Bool)} : stepN dr Tryd.prog ⟨d, .alloc 155, ty, pos, af, g⟩ st id tk K = K (PS.put { st with heap := (id, .box 155 [.val (.string ByteArray.empty), .val (.string ByteArray.empty), .val (.nilIface)]) :: st.heap } d (.ptr id 0)) := s_allocC z155 rfl rfl
theorem mki155 {dr : Bool} {st : PS} {id tk : Nat} {K : PS → Prop} {d : Option Tmp} {ty : TypeId} {pos : String} {af : Array Edge} {g : Option (Nat × Bool)} {x : Operand} : stepN dr Tryd.prog ⟨d, .makeInterface 155 x, ty, pos, af, g⟩ st id tk K = bindO (st.ev x) fun p => K (st.put d (.iface 155 p)) := s_makeIface Tryd.underlying155 rfl
theorem fa155_0 {st : PS} {x : Operand} {K : PV → Prop} : fieldAddrK Tryd.prog st 155 x 0 K = bindO (st.ev x) (fldP 0 K) :=
  fld_ (P := Tryd.prog) (st := st) (x := x) (K := K) (f := 0) Tryd.underlying155 rfl sz9 (by decide)
theorem fi155_0 {st : PS} {x : Operand} {K : PV → Prop} : fieldK Tryd.prog st 155 x 0 K = bindO (st.ev x) (fieldP Tryd.prog 9 0 K) :=
  field_ (P := Tryd.prog) (st := st) (x := x) (K := K) (f := 0) Tryd.underlying155 rfl
theorem fa155_1 {st : PS} {x : Operand} {K : PV → Prop} : fieldAddrK Tryd.prog st 155 x 1 K = bindO (st.ev x) (fldP 1 K) :=
  fld_ (P := Tryd.prog) (st := st) (x := x) (K := K) (f := 1) Tryd.underlying155 rfl sz9 (by decide)
theorem fi155_1 {st : PS} {x : Operand} {K : PV → Prop} : fieldK Tryd.prog st 155 x 1 K = bindO (st.ev x) (fieldP Tryd.prog 9 1 K) :=
  field_ (P := Tryd.prog) (st := st) (x := x) (K := K) (f := 1) Tryd.underlying155 rfl
theorem fa155_2 {st : PS} {x : Operand} {K : PV → Prop} : fieldAddrK Tryd.prog st 155 x 2 K = bindO (st.ev x) (fldP 2 K) :=
  fld_ (P := Tryd.prog) (st := st) (x := x) (K := K) (f := 2) Tryd.underlying155 rfl sz106 (by decide)
theorem fi155_2 {st : PS} {x : Operand} {K : PV → Prop} : fieldK Tryd.prog st 155 x 2 K = bindO (st.ev x) (fieldP Tryd.prog 106 2 K) :=
  field_ (P := Tryd.prog) (st := st) (x := x) (K := K) (f := 2) Tryd.underlying155 rfl
theorem bld155 {st : PS} {l : List (Nat × Operand)} {K : PV → Prop} : buildK Tryd.prog st 155 l K = bindO (evParts st l) fun ps => (ps.all fun e => match e.2 with | .tup _ => false | _ => true) = true ∧ bindO (fillP (fun i => [(0, 1), (1, 1), (2, 1)][i]?) [.val (.string ByteArray.empty), .val (.string ByteArray.empty), .val (.nilIface)] ps) fun cs => K (.agg cs) :=
  buildC Tryd.underlying155 z155 (by kernel_rfl) rfl rfl
-- 156: strconv.NumError
theorem rda156 {cs : List PV} {off : Nat} : readCells Tryd.prog 156 cs off = if off + 3 ≤ cs.length then some (.agg ((cs.drop off).take 3)) else none := rd_agg ag156 sz156
theorem alc156 {dr : Bool} {st : PS} {id tk : Nat} {K : PS → Prop} {d : Option Tmp} {ty : TypeId} {pos : String} {af : Array Edge} {g : Option (Nat × Bool)} : stepN dr Tryd.prog ⟨d, .alloc 156, ty, pos, af, g⟩ st id tk K = K (PS.put { st with heap := (id, .box 156 [.val (.string ByteArray.empty), .val (.string ByteArray.empty), .val (.nilIface)]) :: st.heap } d (.ptr id 0)) := s_allocC z156 rfl rfl
theorem mki156 {dr : Bool} {st : PS} {id tk : Nat} {K : PS → Prop} {d : Option Tmp} {ty : TypeId} {pos : String} {af : Array Edge} {g : Option (Nat × Bool)} {x : Operand} : stepN dr Tryd.prog ⟨d, .makeInterface 156 x, ty, pos, af, g⟩ st id tk K = bindO (st.ev x) fun p => K (st.put d (.iface 156 p)) := s_makeIface Tryd.underlying156 rfl
theorem fa156_0 {st : PS} {x : Operand} {K : PV → Prop} : fieldAddrK Tryd.prog st 156 x 0 K = bindO (st.ev x) (fldP 0 K) :=
  fld_ (P := Tryd.prog) (st := st) (x := x) (K := K) (f := 0) Tryd.underlying156 rfl sz9 (by decide)
theorem fi156_0 {st : PS} {x : Operand} {K : PV → Prop} : fieldK Tryd.prog st 156 x 0 K = bindO (st.ev x) (fieldP Tryd.prog 9 0 K) :=
  field_ (P := Tryd.prog) (st := st) (x := x) (K := K) (f := 0) Tryd.underlying156 rfl
theorem fa156_1 {st : PS} {x : Operand} {K : PV → Prop} : fieldAddrK Tryd.prog st 156 x 1 K = bindO (st.ev x) (fldP 1 K) :=
  fld_ (P := Tryd.prog) (st := st) (x := x) (K := K) (f := 1) Tryd.underlying156 rfl sz9 (by decide)
theorem fi156_1 {st : PS} {x : Operand} {K : PV → Prop} : fieldK Tryd.prog st 156 x 1 K = bindO (st.ev x) (fieldP Tryd.prog 9 1 K) :=
  field_ (P := Tryd.prog) (st := st) (x := x) (K := K) (f := 1) Tryd.underlying156 rfl
theorem fa156_2 {st : PS} {x : Operand} {K : PV → Prop} : fieldAddrK Tryd.prog st 156 x 2 K = bindO (st.ev x) (fldP 2 K) :=
  fld_ (P := Tryd.prog) (st := st) (x := x) (K := K) (f := 2) Tryd.underlying156 rfl sz106 (by decide)
theorem fi156_2 {st : PS} {x : Operand} {K : PV → Prop} : fieldK Tryd.prog st 156 x 2 K = bindO (st.ev x) (fieldP Tryd.prog 106 2 K) :=
  field_ (P := Tryd.prog) (st := st) (x := x) (K := K) (f := 2) Tryd.underlying156 rfl
theorem bld156 {st : PS} {l : List (Nat × Operand)} {K : PV → Prop} : buildK Tryd.prog st 156 l K = bindO (evParts st l) fun ps => (ps.all fun e => match e.2 with | .tup _ => false | _ => true) = true ∧ bindO (fillP (fun i => [(0, 1), (1, 1), (2, 1)][i]?) [.val (.string ByteArray.empty), .val (.string ByteArray.empty), .val (.nilIface)] ps) fun cs => K (.agg cs) :=
  buildC Tryd.underlying156 z156 (by kernel_rfl) rfl rfl
-- 157: func(string) error
theorem rdo157 {cs : List PV} {off : Nat} : readCells Tryd.prog 157 cs off = cs[off]? := rd_one ag157
-- 158: [24]uint8
theorem rda158 {cs : List PV} {off : Nat} : readCells Tryd.prog 158 cs off = if off + 24 ≤ cs.length then some (.agg ((cs.drop off).take 24)) else none := rd_agg ag158 sz158
theorem alc158 {dr : Bool} {st : PS} {id tk : Nat} {K : PS → Prop} {d : Option Tmp} {ty : TypeId} {pos : String} {af : Array Edge} {g : Option (Nat × Bool)} : stepN dr Tryd.prog ⟨d, .alloc 158, ty, pos, af, g⟩ st id tk K = K (PS.put { st with heap := (id, .box 158 [.val (.int .u8 0), .val (.int .u8 0), .val (.int .u8 0), .val (.int .u8 0), .val (.int .u8 0), .val (.int .u8 0), .val (.int .u8 0), .val (.int .u8 0), .val (.int .u8 0), .val (.int .u8 0), .val (.int .u8 0), .val (.int .u8 0), .val (.int .u8 0), .val (.int .u8 0), .val (.int .u8 0), .val (.int .u8 0), .val (.int .u8 0), .val (.int .u8 0), .val (.int .u8 0), .val (.int .u8 0), .val (.int .u8 0), .val (.int .u8 0), .val (.int .u8 0), .val (.int .u8 0)]) :: st.heap } d (.ptr id 0)) := s_allocC z158 rfl rfl
theorem lns158 {st : PS} {x : Operand} {K : PV → Prop} : lenK Tryd.prog st 158 x K = K (.val (.int .i64 (24 : Nat))) := len_array Tryd.underlying158
theorem ixs158 {st : PS} {x y : Operand} {K : PV → Prop} : indexAddrK Tryd.prog st 158 x y K = bindO (st.ev x) fun p => bindO (st.ev y) fun q => intK q fun i => ixA 1 24 i K p := ix_array Tryd.underlying158 sz5
theorem bld158 {st : PS} {l : List (Nat × Operand)} {K : PV → Prop} : buildK Tryd.prog st 158 l K = bindO (evParts st l) fun ps => (ps.all fun e => match e.2 with | .tup _ => false | _ => true) = true ∧ bindO (fillP (fun i => some (i * 1, 1)) [.val (.int .u8 0), .val (.int .u8 0), .val (.int .u8 0), .val (.int .u8 0), .val (.int .u8 0), .val (.int .u8 0), .val (.int .u8 0), .val (.int .u8 0), .val (.int .u8 0), .val (.int .u8 0), .val (.int .u8 0), .val (.int .u8 0), .val (.int .u8 0), .val (.int .u8 0), .val (.int .u8 0), .val (.int .u8 0), .val (.int .u8 0), .val (.int .u8 0), .val (.int .u8 0), .val (.int .u8 0), .val (.int .u8 0), .val (.int .u8 0), .val (.int .u8 0), .val (.int .u8 0)] ps) fun cs => K (.agg cs) :=
  buildA Tryd.underlying158 z158 sz5 rfl rfl
-- 159: func(uint64) int
theorem rdo159 {cs : List PV} {off : Nat} : readCells Tryd.prog 159 cs off = cs[off]? := rd_one ag159
-- 160: func([]uint8, uint64)
theorem rdo160 {cs : List PV} {off : Nat} : readCells Tryd.prog 160 cs off = cs[off]? := rd_one ag160
-- 162: func([]uint8, uint64, int, bool, bool) ([]uint8, string)
theorem rdo162 {cs : List PV} {off : Nat} : readCells Tryd.prog 162 cs off = cs[off]? := rd_one ag162
-- 163: func(int) int
theorem rdo163 {cs : List PV} {off : Nat} : readCells Tryd.prog 163 cs off = cs[off]? := rd_one ag163
-- 164: func(uint8) uint8
theorem rdo164 {cs : List PV} {off : Nat} : readCells Tryd.prog 164 cs off = cs[off]? := rd_one ag164
-- 165: *errors.errorString
theorem rdo165 {cs : List PV} {off : Nat} : readCells Tryd.prog 165 cs off = cs[off]? := rd_one ag165
theorem alc165 {dr : Bool} {st : PS} {id tk : Nat} {K : PS → Prop} {d : Option Tmp} {ty : TypeId} {pos : String} {af : Array Edge} {g : Option (Nat × Bool)} : stepN dr Tryd.prog ⟨d, .alloc 165, ty, pos, af, g⟩ st id tk K = K (PS.put { st with heap := (id, .box 165 [.val (.pointer none)]) :: st.heap } d (.ptr id 0)) := s_allocC z165 rfl rfl
theorem mki165 {dr : Bool} {st : PS} {id tk : Nat} {K : PS → Prop} {d : Option Tmp} {ty : TypeId} {pos : String} {af : Array Edge} {g : Option (Nat × Bool)} {x : Operand} : stepN dr Tryd.prog ⟨d, .makeInterface 165 x, ty, pos, af, g⟩ st id tk K = bindO (st.ev x) fun p => K (st.put d (.iface 165 p)) := s_makeIface Tryd.underlying165 rfl
-- 166: struct { s string }
theorem rda166 {cs : List PV} {off : Nat} : readCells Tryd.prog 166 cs off = if off + 1 ≤ cs.length then some (.agg ((cs.drop off).take 1)) else none := rd_agg ag166 sz166
theorem alc166 {dr : Bool} {st : PS} {id tk : Nat} {K : PS → Prop} {d : Option Tmp} {ty : TypeId} {pos : String} {af : Array Edge} {g : Option (Nat × Bool)} : stepN dr Tryd.prog ⟨d, .alloc 166, ty, pos, af, g⟩ st id tk K = K (PS.put { st with heap := (id, .box 166 [.val (.string ByteArray.empty)]) :: st.heap } d (.ptr id 0)) := s_allocC z166 rfl rfl
theorem mki166 {dr : Bool} {st : PS} {id tk : Nat} {K : PS → Prop} {d : Option Tmp} {ty : TypeId} {pos : String} {af : Array Edge} {g : Option (Nat × Bool)} {x : Operand} : stepN dr Tryd.prog ⟨d, .makeInterface 166 x, ty, pos, af, g⟩ st id tk K = bindO (st.ev x) fun p => K (st.put d (.iface 166 p)) := s_makeIface Tryd.underlying166 rfl
theorem fa166_0 {st : PS} {x : Operand} {K : PV → Prop} : fieldAddrK Tryd.prog st 166 x 0 K = bindO (st.ev x) (fldP 0 K) :=
  fld_ (P := Tryd.prog) (st := st) (x := x) (K := K) (f := 0) Tryd.underlying166 rfl sz9 (by decide)
theorem fi166_0 {st : PS} {x : Operand} {K : PV → Prop} : fieldK Tryd.prog st 166 x 0 K = bindO (st.ev x) (fieldP Tryd.prog 9 0 K) :=
  field_ (P := Tryd.prog) (st := st) (x := x) (K := K) (f := 0) Tryd.underlying166 rfl
theorem bld166 {st : PS} {l : List (Nat × Operand)} {K : PV → Prop} : buildK Tryd.prog st 166 l K = bindO (evParts st l) fun ps => (ps.all fun e => match e.2 with | .tup _ => false | _ => true) = true ∧ bindO (fillP (fun i => [(0, 1)][i]?) [.val (.string ByteArray.empty)] ps) fun cs => K (.agg cs) :=
  buildC Tryd.underlying166 z166 (by kernel_rfl) rfl rfl
-- 167: errors.errorString
theorem rda167 {cs : List PV} {off : Nat} : readCells Tryd.prog 167 cs off = if off + 1 ≤ cs.length then some (.agg ((cs.drop off).take 1)) else none := rd_agg ag167 sz167
theorem alc167 {dr : Bool} {st : PS} {id tk : Nat} {K : PS → Prop} {d : Option Tmp} {ty : TypeId} {pos : String} {af : Array Edge} {g : Option (Nat × Bool)} : stepN dr Tryd.prog ⟨d, .alloc 167, ty, pos, af, g⟩ st id tk K = K (PS.put { st with heap := (id, .box 167 [.val (.string ByteArray.empty)]) :: st.heap } d (.ptr id 0)) := s_allocC z167 rfl rfl
theorem mki167 {dr : Bool} {st : PS} {id tk : Nat} {K : PS → Prop} {d : Option Tmp} {ty : TypeId} {pos : String} {af : Array Edge} {g : Option (Nat × Bool)} {x : Operand} : stepN dr Tryd.prog ⟨d, .makeInterface 167 x, ty, pos, af, g⟩ st id tk K = bindO (st.ev x) fun p => K (st.put d (.iface 167 p)) := s_makeIface Tryd.underlying167 rfl
theorem fa167_0 {st : PS} {x : Operand} {K : PV → Prop} : fieldAddrK Tryd.prog st 167 x 0 K = bindO (st.ev x) (fldP 0 K) :=
  fld_ (P := Tryd.prog) (st := st) (x := x) (K := K) (f := 0) Tryd.underlying167 rfl sz9 (by decide)
theorem fi167_0 {st : PS} {x : Operand} {K : PV → Prop} : fieldK Tryd.prog st 167 x 0 K = bindO (st.ev x) (fieldP Tryd.prog 9 0 K) :=
  field_ (P := Tryd.prog) (st := st) (x := x) (K := K) (f := 0) Tryd.underlying167 rfl
theorem bld167 {st : PS} {l : List (Nat × Operand)} {K : PV → Prop} : buildK Tryd.prog st 167 l K = bindO (evParts st l) fun ps => (ps.all fun e => match e.2 with | .tup _ => false | _ => true) = true ∧ bindO (fillP (fun i => [(0, 1)][i]?) [.val (.string ByteArray.empty)] ps) fun cs => K (.agg cs) :=
  buildC Tryd.underlying167 z167 (by kernel_rfl) rfl rfl
-- 168: func(bool) int
theorem rdo168 {cs : List PV} {off : Nat} : readCells Tryd.prog 168 cs off = cs[off]? := rd_one ag168
-- 169: [20]uint64
theorem rda169 {cs : List PV} {off : Nat} : readCells Tryd.prog 169 cs off = if off + 20 ≤ cs.length then some (.agg ((cs.drop off).take 20)) else none := rd_agg ag169 sz169
theorem alc169 {dr : Bool} {st : PS} {id tk : Nat} {K : PS → Prop} {d : Option Tmp} {ty : TypeId} {pos : String} {af : Array Edge} {g : Option (Nat × Bool)} : stepN dr Tryd.prog ⟨d, .alloc 169, ty, pos, af, g⟩ st id tk K = K (PS.put { st with heap := (id, .box 169 [.val (.int .u64 0), .val (.int .u64 0), .val (.int .u64 0), .val (.int .u64 0), .val (.int .u64 0), .val (.int .u64 0), .val (.int .u64 0), .val (.int .u64 0), .val (.int .u64 0), .val (.int .u64 0), .val (.int .u64 0), .val (.int .u64 0), .val (.int .u64 0), .val (.int .u64 0), .val (.int .u64 0), .val (.int .u64 0), .val (.int .u64 0), .val (.int .u64 0), .val (.int .u64 0), .val (.int .u64 0)]) :: st.heap } d (.ptr id 0)) := s_allocC z169 rfl rfl
theorem lns169 {st : PS} {x : Operand} {K : PV → Prop} : lenK Tryd.prog st 169 x K = K (.val (.int .i64 (20 : Nat))) := len_array Tryd.underlying169
theorem ixs169 {st : PS} {x y : Operand} {K : PV → Prop} : indexAddrK Tryd.prog st 169 x y K = bindO (st.ev x) fun p => bindO (st.ev y) fun q => intK q fun i => ixA 1 20 i K p := ix_array Tryd.underlying169 sz152
theorem bld169 {st : PS} {l : List (Nat × Operand)} {K : PV → Prop} : buildK Tryd.prog st 169 l K = bindO (evParts st l) fun ps => (ps.all fun e => match e.2 with | .tup _ => false | _ => true) = true ∧ bindO (fillP (fun i => some (i * 1, 1)) [.val (.int .u64 0), .val (.int .u64 0), .val (.int .u64 0), .val (.int .u64 0), .val (.int .u64 0), .val (.int .u64 0), .val (.int .u64 0), .val (.int .u64 0), .val (.int .u64 0), .val (.int .u64 0), .val (.int .u64 0), .val (.int .u64 0), .val (.int .u64 0), .val (.int .u64 0), .val (.int .u64 0), .val (.int .u64 0), .val (.int .u64 0), .val (.int .u64 0), .val (.int .u64 0), .val (.int .u64 0)] ps) fun cs => K (.agg cs) :=
  buildA Tryd.underlying169 z169 sz152 rfl rfl
-- 170: uint32
theorem rdo170 {cs : List PV} {off : Nat} : readCells Tryd.prog 170 cs off = cs[off]? := rd_one ag170
theorem alc170 {dr : Bool} {st : PS} {id tk : Nat} {K : PS → Prop} {d : Option Tmp} {ty : TypeId} {pos : String} {af : Array Edge} {g : Option (Nat × Bool)} : stepN dr Tryd.prog ⟨d, .alloc 170, ty, pos, af, g⟩ st id tk K = K (PS.put { st with heap := (id, .box 170 [.val (.int .u32 0)]) :: st.heap } d (.ptr id 0)) := s_allocC z170 rfl rfl
theorem mki170 {dr : Bool} {st : PS} {id tk : Nat} {K : PS → Prop} {d : Option Tmp} {ty : TypeId} {pos : String} {af : Array Edge} {g : Option (Nat × Bool)} {x : Operand} : stepN dr Tryd.prog ⟨d, .makeInterface 170 x, ty, pos, af, g⟩ st id tk K = bindO (st.ev x) fun p => K (st.put d (.iface 170 p)) := s_makeIface Tryd.underlying170 rfl
-- 172: func(uint) int
theorem rdo172 {cs : List PV} {off : Nat} : readCells Tryd.prog 172 cs off = cs[off]? := rd_one ag172
-- 174: struct { lo uint8; hi uint8 }
theorem rda174 {cs : List PV} {off : Nat} : readCells Tryd.prog 174 cs off = if off + 2 ≤ cs.length then some (.agg ((cs.drop off).take 2)) else none := rd_agg ag174 sz174
theorem alc174 {dr : Bool} {st : PS} {id tk : Nat} {K : PS → Prop} {d : Option Tmp} {ty : TypeId} {pos : String} {af : Array Edge} {g : Option (Nat × Bool)} : stepN dr Tryd.prog ⟨d, .alloc 174, ty, pos, af, g⟩ st id tk K = K (PS.put { st with heap := (id, .box 174 [.val (.int .u8 0), .val (.int .u8 0)]) :: st.heap } d (.ptr id 0)) := s_allocC z174 rfl rfl
theorem mki174 {dr : Bool} {st : PS} {id tk : Nat} {K : PS → Prop} {d : Option Tmp} {ty : TypeId} {pos : String} {af : Array Edge} {g : Option (Nat × Bool)} {x : Operand} : stepN dr Tryd.prog ⟨d, .makeInterface 174 x, ty, pos, af, g⟩ st id tk K = bindO (st.ev x) fun p => K (st.put d (.iface 174 p)) := s_makeIface Tryd.underlying174 rfl
theorem fa174_0 {st : PS} {x : Operand} {K : PV → Prop} : fieldAddrK Tryd.prog st 174 x 0 K = bindO (st.ev x) (fldP 0 K) :=
  fld_ (P := Tryd.prog) (st := st) (x := x) (K := K) (f := 0) Tryd.underlying174 rfl sz5 (by decide)
theorem fi174_0 {st : PS} {x : Operand} {K : PV → Prop} : fieldK Tryd.prog st 174 x 0 K = bindO (st.ev x) (fieldP Tryd.prog 5 0 K) :=
  field_ (P := Tryd.prog) (st := st) (x := x) (K := K) (f := 0) Tryd.underlying174 rfl
theorem fa174_1 {st : PS} {x : Operand} {K : PV → Prop} : fieldAddrK Tryd.prog st 174 x 1 K = bindO (st.ev x) (fldP 1 K) :=
  fld_ (P := Tryd.prog) (st := st) (x := x) (K := K) (f := 1) Tryd.underlying174 rfl sz5 (by decide)
theorem fi174_1 {st : PS} {x : Operand} {K : PV → Prop} : fieldK Tryd.prog st 174 x 1 K = bindO (st.ev x) (fieldP Tryd.prog 5 1 K) :=
  field_ (P := Tryd.prog) (st := st) (x := x) (K := K) (f := 1) Tryd.underlying174 rfl
theorem bld174 {st : PS} {l : List (Nat × Operand)} {K : PV → Prop} : buildK Tryd.prog st 174 l K = bindO (evParts st l) fun ps => (ps.all fun e => match e.2 with | .tup _ => false | _ => true) = true ∧ bindO (fillP (fun i => [(0, 1), (1, 1)][i]?) [.val (.int .u8 0), .val (.int .u8 0)] ps) fun cs => K (.agg cs) :=
  buildC Tryd.underlying174 z174 (by kernel_rfl) rfl rfl
-- 175: utf8.acceptRange
theorem rda175 {cs : List PV} {off : Nat} : readCells Tryd.prog 175 cs off = if off + 2 ≤ cs.length then some (.agg ((cs.drop off).take 2)) else none := rd_agg ag175 sz175
theorem alc175 {dr : Bool} {st : PS} {id tk : Nat} {K : PS → Prop} {d : Option Tmp} {ty : TypeId} {pos : String} {af : Array Edge} {g : Option (Nat × Bool)} : stepN dr Tryd.prog ⟨d, .alloc 175, ty, pos, af, g⟩ st id tk K = K (PS.put { st with heap := (id, .box 175 [.val (.int .u8 0), .val (.int .u8 0)]) :: st.heap } d (.ptr id 0)) := s_allocC z175 rfl rfl
theorem mki175 {dr : Bool} {st : PS} {id tk : Nat} {K : PS → Prop} {d : Option Tmp} {ty : TypeId} {pos : String} {af : Array Edge} {g : Option (Nat × Bool)} {x : Operand} : stepN dr Tryd.prog ⟨d, .makeInterface 175 x, ty, pos, af, g⟩ st id tk K = bindO (st.ev x) fun p => K (st.put d (.iface 175 p)) := s_makeIface Tryd.underlying175 rfl
theorem fa175_0 {st : PS} {x : Operand} {K : PV → Prop} : fieldAddrK Tryd.prog st 175 x 0 K = bindO (st.ev x) (fldP 0 K) :=
  fld_ (P := Tryd.prog) (st := st) (x := x) (K := K) (f := 0) Tryd.underlying175 rfl sz5 (by decide)
theorem fi175_0 {st : PS} {x : Operand} {K : PV → Prop} : fieldK Tryd.prog st 175 x 0 K = bindO (st.ev x) (fieldP Tryd.prog 5 0 K) :=
  field_ (P := Tryd.prog) (st := st) (x := x) (K := K) (f := 0) Tryd.underlying175 rfl
theorem fa175_1 {st : PS} {x : Operand} {K : PV → Prop} : fieldAddrK Tryd.prog st 175 x 1 K = bindO (st.ev x) (fldP 1 K) :=
  fld_ (P := Tryd.prog) (st := st) (x := x) (K := K) (f := 1) Tryd.underlying175 rfl sz5 (by decide)
theorem fi175_1 {st : PS} {x : Operand} {K : PV → Prop} : fieldK Tryd.prog st 175 x 1 K = bindO (st.ev x) (fieldP Tryd.prog 5 1 K) :=
  field_ (P := Tryd.prog) (st := st) (x := x) (K := K) (f := 1) Tryd.underlying175 rfl
theorem bld175 {st : PS} {l : List (Nat × Operand)} {K : PV → Prop} : buildK Tryd.prog st 175 l K = bindO (evParts st l) fun ps => (ps.all fun e => match e.2 with | .tup _ => false | _ => true) = true ∧ bindO (fillP (fun i => [(0, 1), (1, 1)][i]?) [.val (.int .u8 0), .val (.int .u8 0)] ps) fun cs => K (.agg cs) :=
  buildC Tryd.underlying175 z175 (by kernel_rfl) rfl rfl
-- 176: [16]utf8.acceptRange
theorem rda176 {cs : List PV} {off : Nat} : readCells Tryd.prog 176 cs off = if off + 32 ≤ cs.length then some (.agg ((cs.drop off).take 32)) else none := rd_agg ag176 sz176
theorem alc176 {dr : Bool} {st : PS} {id tk : Nat} {K : PS → Prop} {d : Option Tmp} {ty : TypeId} {pos : String} {af : Array Edge} {g : Option (Nat × Bool)} : stepN dr Tryd.prog ⟨d, .alloc 176, ty, pos, af, g⟩ st id tk K = K (PS.put { st with heap := (id, .box 176 [.val (.int .u8 0), .val (.int .u8 0), .val (.int .u8 0), .val (.int .u8 0), .val (.int .u8 0), .val (.int .u8 0), .val (.int .u8 0), .val (.int .u8 0), .val (.int .u8 0), .val (.int .u8 0), .val (.int .u8 0), .val (.int .u8 0), .val (.int .u8 0), .val (.int .u8 0), .val (.int .u8 0), .val (.int .u8 0), .val (.int .u8 0), .val (.int .u8 0), .val (.int .u8 0), .val (.int .u8 0), .val (.int .u8 0), .val (.int .u8 0), .val (.int .u8 0), .val (.int .u8 0), .val (.int .u8 0), .val (.int .u8 0), .val (.int .u8 0), .val (.int .u8 0), .val (.int .u8 0), .val (.int .u8 0), .val (.int .u8 0), .val (.int .u8 0)]) :: st.heap } d (.ptr id 0)) := s_allocC z176 rfl rfl
theorem lns176 {st : PS} {x : Operand} {K : PV → Prop} : lenK Tryd.prog st 176 x K = K (.val (.int .i64 (16 : Nat))) := len_array Tryd.underlying176
theorem ixs176 {st : PS} {x y : Operand} {K : PV → Prop} : indexAddrK Tryd.prog st 176 x y K = bindO (st.ev x) fun p => bindO (st.ev y) fun q => intK q fun i => ixA 2 16 i K p := ix_array Tryd.underlying176 sz175
theorem bld176 {st : PS} {l : List (Nat × Operand)} {K : PV → Prop} : buildK Tryd.prog st 176 l K = bindO (evParts st l) fun ps => (ps.all fun e => match e.2 with | .tup _ => false | _ => true) = true ∧ bindO (fillP (fun i => some (i * 2, 2)) [.val (.int .u8 0), .val (.int .u8 0), .val (.int .u8 0), .val (.int .u8 0), .val (.int .u8 0), .val (.int .u8 0), .val (.int .u8 0), .val (.int .u8 0), .val (.int .u8 0), .val (.int .u8 0), .val (.int .u8 0), .val (.int .u8 0), .val (.int .u8 0), .val (.int .u8 0), .val (.int .u8 0), .val (.int .u8 0), .val (.int .u8 0), .val (.int .u8 0), .val (.int .u8 0), .val (.int .u8 0), .val (.int .u8 0), .val (.int .u8 0), .val (.int .u8 0), .val (.int .u8 0), .val (.int .u8 0), .val (.int .u8 0), .val (.int .u8 0), .val (.int .u8 0), .val (.int .u8 0), .val (.int .u8 0), .val (.int .u8 0), .val (.int .u8 0)] ps) fun cs => K (.agg cs) :=
  buildA Tryd.underlying176 z176 sz175 rfl rfl
-- 178: func(string) (uint32, uint32)
theorem rdo178 {cs : List PV} {off : Nat} : readCells Tryd.prog 178 cs off = cs[off]? := rd_one ag178
-- 179: func(uint32) int
theorem rdo179 {cs : List PV} {off : Nat} : readCells Tryd.prog 179 cs off = cs[off]? := rd_one ag179
-- 180: [32]uint8
theorem rda180 {cs : List PV} {off : Nat} : readCells Tryd.prog 180 cs off = if off + 32 ≤ cs.length then some (.agg ((cs.drop off).take 32)) else none := rd_agg ag180 sz180
theorem alc180 {dr : Bool} {st : PS} {id tk : Nat} {K : PS → Prop} {d : Option Tmp} {ty : TypeId} {pos : String} {af : Array Edge} {g : Option (Nat × Bool)} : stepN dr Tryd.prog ⟨d, .alloc 180, ty, pos, af, g⟩ st id tk K = K (PS.put { st with heap := (id, .box 180 [.val (.int .u8 0), .val (.int .u8 0), .val (.int .u8 0), .val (.int .u8 0), .val (.int .u8 0), .val (.int .u8 0), .val (.int .u8 0), .val (.int .u8 0), .val (.int .u8 0), .val (.int .u8 0), .val (.int .u8 0), .val (.int .u8 0), .val (.int .u8 0), .val (.int .u8 0), .val (.int .u8 0), .val (.int .u8 0), .val (.int .u8 0), .val (.int .u8 0), .val (.int .u8 0), .val (.int .u8 0), .val (.int .u8 0), .val (.int .u8 0), .val (.int .u8 0), .val (.int .u8 0), .val (.int .u8 0), .val (.int .u8 0), .val (.int .u8 0), .val (.int .u8 0), .val (.int .u8 0), .val (.int .u8 0), .val (.int .u8 0), .val (.int .u8 0)]) :: st.heap } d (.ptr id 0)) := s_allocC z180 rfl rfl
theorem lns180 {st : PS} {x : Operand} {K : PV → Prop} : lenK Tryd.prog st 180 x K = K (.val (.int .i64 (32 : Nat))) := len_array Tryd.underlying180
theorem ixs180 {st : PS} {x y : Operand} {K : PV → Prop} : indexAddrK Tryd.prog st 180 x y K = bindO (st.ev x) fun p => bindO (st.ev y) fun q => intK q fun i => ixA 1 32 i K p := ix_array Tryd.underlying180 sz5
theorem bld180 {st : PS} {l : List (Nat × Operand)} {K : PV → Prop} : buildK Tryd.prog st 180 l K = bindO (evParts st l) fun ps => (ps.all fun e => match e.2 with | .tup _ => false | _ => true) = true ∧ bindO (fillP (fun i => some (i * 1, 1)) [.val (.int .u8 0), .val (.int .u8 0), .val (.int .u8 0), .val (.int .u8 0), .val (.int .u8 0), .val (.int .u8 0), .val (.int .u8 0), .val (.int .u8 0), .val (.int .u8 0), .val (.int .u8 0), .val (.int .u8 0), .val (.int .u8 0), .val (.int .u8 0), .val (.int .u8 0), .val (.int .u8 0), .val (.int .u8 0), .val (.int .u8 0), .val (.int .u8 0), .val (.int .u8 0), .val (.int .u8 0), .val (.int .u8 0), .val (.int .u8 0), .val (.int .u8 0), .val (.int .u8 0), .val (.int .u8 0), .val (.int .u8 0), .val (.int .u8 0), .val (.int .u8 0), .val (.int .u8 0), .val (.int .u8 0), .val (.int .u8 0), .val (.int .u8 0)] ps) fun cs => K (.agg cs) :=
  buildA Tryd.underlying180 z180 sz5 rfl rfl
-- 181: [64]uint8
theorem rda181 {cs : List PV} {off : Nat} : readCells Tryd.prog 181 cs off = if off + 64 ≤ cs.length then some (.agg ((cs.drop off).take 64)) else none := rd_agg ag181 sz181
theorem alc181 {dr : Bool} {st : PS} {id tk : Nat} {K : PS → Prop} {d : Option Tmp} {ty : TypeId} {pos : String} {af : Array Edge} {g : Option (Nat × Bool)} : stepN dr Tryd.prog ⟨d, .alloc 181, ty, pos, af, g⟩ st id tk K = K (PS.put { st with heap := (id, .box 181 [.val (.int .u8 0), .val (.int .u8 0), .val (.int .u8 0), .val (.int .u8 0), .val (.int .u8 0), .val (.int .u8 0), .val (.int .u8 0), .val (.int .u8 0), .val (.int .u8 0), .val (.int .u8 0), .val (.int .u8 0), .val (.int .u8 0), .val (.int .u8 0), .val (.int .u8 0), .val (.int .u8 0), .val (.int .u8 0), .val (.int .u8 0), .val (.int .u8 0), .val (.int .u8 0), .val (.int .u8 0), .val (.int .u8 0), .val (.int .u8 0), .val (.int .u8 0), .val (.int .u8 0), .val (.int .u8 0), .val (.int .u8 0), .val (.int .u8 0), .val (.int .u8 0), .val (.int .u8 0), .val (.int .u8 0), .val (.int .u8 0), .val (.int .u8 0), .val (.int .u8 0), .val (.int .u8 0), .val (.int .u8 0), .val (.int .u8 0), .val (.int .u8 0), .val (.int .u8 0), .val (.int .u8 0), .val (.int .u8 0), .val (.int .u8 0), .val (.int .u8 0), .val (.int .u8 0), .val (.int .u8 0), .val (.int .u8 0), .val (.int .u8 0), .val (.int .u8 0), .val (.int .u8 0), .val (.int .u8 0), .val (.int .u8 0), .val (.int .u8 0), .val (.int .u8 0), .val (.int .u8 0), .val (.int .u8 0), .val (.int .u8 0), .val (.int .u8 0), .val (.int .u8 0), .val (.int .u8 0), .val (.int .u8 0), .val (.int .u8 0), .val (.int .u8 0), .val (.int .u8 0), .val (.int .u8 0), .val (.int .u8 0)]) :: st.heap } d (.ptr id 0)) := s_allocC z181 rfl rfl
theorem lns181 {st : PS} {x : Operand} {K : PV → Prop} : lenK Tryd.prog st 181 x K = K (.val (.int .i64 (64 : Nat))) := len_array Tryd.underlying181
theorem ixs181 {st : PS} {x y : Operand} {K : PV → Prop} : indexAddrK Tryd.prog st 181 x y K = bindO (st.ev x) fun p => bindO (st.ev y) fun q => intK q fun i => ixA 1 64 i K p := ix_array Tryd.underlying181 sz5
theorem bld181 {st : PS} {l : List (Nat × Operand)} {K : PV → Prop} : buildK Tryd.prog st 181 l K = bindO (evParts st l) fun ps => (ps.all fun e => match e.2 with | .tup _ => false | _ => true) = true ∧ bindO (fillP (fun i => some (i * 1, 1)) [.val (.int .u8 0), .val (.int .u8 0), .val (.int .u8 0), .val (.int .u8 0), .val (.int .u8 0), .val (.int .u8 0), .val (.int .u8 0), .val (.int .u8 0), .val (.int .u8 0), .val (.int .u8 0), .val (.int .u8 0), .val (.int .u8 0), .val (.int .u8 0), .val (.int .u8 0), .val (.int .u8 0), .val (.int .u8 0), .val (.int .u8 0), .val (.int .u8 0), .val (.int .u8 0), .val (.int .u8 0), .val (.int .u8 0), .val (.int .u8 0), .val (.int .u8 0), .val (.int .u8 0), .val (.int .u8 0), .val (.int .u8 0), .val (.int .u8 0), .val (.int .u8 0), .val (.int .u8 0), .val (.int .u8 0), .val (.int .u8 0), .val (.int .u8 0), .val (.int .u8 0), .val (.int .u8 0), .val (.int .u8 0), .val (.int .u8 0), .val (.int .u8 0), .val (.int .u8 0), .val (.int .u8 0), .val (.int .u8 0), .val (.int .u8 0), .val (.int .u8 0), .val (.int .u8 0), .val (.int .u8 0), .val (.int .u8 0), .val (.int .u8 0), .val (.int .u8 0), .val (.int .u8 0), .val (.int .u8 0), .val (.int .u8 0), .val (.int .u8 0), .val (.int .u8 0), .val (.int .u8 0), .val (.int .u8 0), .val (.int .u8 0), .val (.int .u8 0), .val (.int .u8 0), .val (.int .u8 0), .val (.int .u8 0), .val (.int .u8 0), .val (.int .u8 0), .val (.int .u8 0), .val (.int .u8 0), .val (.int .u8 0)] ps) fun cs => K (.agg cs) :=
  buildA Tryd.underlying181 z181 sz5 rfl rfl
-- 184: [0]*runtime.PanicNilError
-- 185: struct { _ [0]*runtime.PanicNilError }
theorem mki185 {dr : Bool} {st : PS} {id tk : Nat} {K : PS → Prop} {d : Option Tmp} {ty : TypeId} {pos : String} {af : Array Edge} {g : Option (Nat × Bool)} {x : Operand} : stepN dr Tryd.prog ⟨d, .makeInterface 185 x, ty, pos, af, g⟩ st id tk K = bindO (st.ev x) fun p => K (st.put d (.iface 185 p)) := s_makeIface Tryd.underlying185 rfl
-- 187: func() int
theorem rdo187 {cs : List PV} {off : Nat} : readCells Tryd.prog 187 cs off = cs[off]? := rd_one ag187
-- 190: func(unsafe.Pointer, unsafe.Pointer) bool
theorem rdo190 {cs : List PV} {off : Nat} : readCells Tryd.prog 190 cs off = cs[off]? := rd_one ag190
attribute [go_sem ↓] alc2 mki2 alc3 mki3 alc4 alc5 mki5 alc9 mki9 rng9 lns9 ixs9 sls9 alc12 mki12 alc13 mki13 fa13_0 fi13_0 fa13_1 fi13_1 bld13 alc20 alc21 mki21 alc22 lns22 ixs22 sls22 app22 bs22 mks22 alc23 lns23 ixs23 sls23 app23 bs23 mks23 alc26 lns26 ixs26 sls26 app26 bs26 mks26 alc27 mki27 fa27_0 fi27_0 fa27_1 fi27_1 fa27_2 fi27_2 fa27_3 fi27_3 fa27_4 fi27_4 fa27_5 fi27_5 bld27 alc28 mki28 fa28_0 fi28_0 fa28_1 fi28_1 fa28_2 fi28_2 fa28_3 fi28_3 fa28_4 fi28_4 fa28_5 fi28_5 bld28 alc30 lns30 ixs30 sls30 app30 bs30 mks30 alc31 mki31 fa31_0 fi31_0 fa31_1 fi31_1 fa31_2 fi31_2 fa31_3 fi31_3 fa31_4 fi31_4 fa31_5 fi31_5 bld31 alc32 mki32 fa32_0 fi32_0 fa32_1 fi32_1 fa32_2 fi32_2 fa32_3 fi32_3 fa32_4 fi32_4 fa32_5 fi32_5 bld32 alc33 mki33 alc42 lns42 ixs42 sls42 app42 bs42 mks42 alc48 mki48 fa48_0 fi48_0 fa48_1 fi48_1 bld48 alc49 mki49 fa49_0 fi49_0 fa49_1 fi49_1 bld49 alc52 mki52 alc53 mki53 fa53_0 fi53_0 fa53_1 fi53_1 bld53 alc54 mki54 fa54_0 fi54_0 fa54_1 fi54_1 bld54 alc59 lns59 ixs59 bld59 alc71 lns71 ixs71 sls71 aps71 cvr71 app71 bs71 mks71 alc72 mki72 fa72_0 fi72_0 fa72_1 fi72_1 fa72_2 fi72_2 fa72_3 fi72_3 fa72_4 fi72_4 bld72 alc73 mki73 fa73_0 fi73_0 fa73_1 fi73_1 fa73_2 fi73_2 fa73_3 fi73_3 fa73_4 fi73_4 bld73 alc81 lns81 ixs81 sls81 app81 bs81 mks81 alc82 mki82 fa82_0 fi82_0 fa82_1 fi82_1 bld82 alc83 mki83 fa83_0 fi83_0 fa83_1 fi83_1 bld83 alc87 mki87 alc105 alc106 alc115 mki115 alc116 mki116 fa116_0 fi116_0 fa116_1 fi116_1 bld116 alc117 mki117 fa117_0 fi117_0 fa117_1 fi117_1 bld117 alc123 mki123 alc132 mki132 alc133 lns133 ixs133 bld133 alc136 mki136 alc139 mki139 alc152 mki152 alc155 mki155 fa155_0 fi155_0 fa155_1 fi155_1 fa155_2 fi155_2 bld155 alc156 mki156 fa156_0 fi156_0 fa156_1 fi156_1 fa156_2 fi156_2 bld156 alc158 lns158 ixs158 bld158 alc165 mki165 alc166 mki166 fa166_0 fi166_0 bld166 alc167 mki167 fa167_0 fi167_0 bld167 alc169 lns169 ixs169 bld169 alc170 mki170 alc174 mki174 fa174_0 fi174_0 fa174_1 fi174_1 bld174 alc175 mki175 fa175_0 fi175_0 fa175_1 fi175_1 bld175 alc176 lns176 ixs176 bld176 alc180 lns180 ixs180 bld180 alc181 lns181 ixs181 bld181 mki185
attribute [go_sem] rdo1 sz1 rdo2 sz2 Tryd.underlying2 rdo3 sz3 Tryd.underlying3 rdo4 sz4 Tryd.underlying4 rdo5 sz5 Tryd.underlying5 rdo9 sz9 Tryd.underlying9 rdo12 sz12 Tryd.underlying12 rda13 sz13 rdo20 sz20 ifx20 rdo21 sz21 Tryd.underlying21 rdo22 sz22 rdo23 sz23 rdo24 sz24 rdo25 sz25 rdo26 sz26 rda27 sz27 rda28 sz28 rdo29 sz29 rdo30 sz30 rda31 sz31 rda32 sz32 rdo33 sz33 Tryd.underlying33 rdo35 sz35 rdo36 sz36 rdo38 sz38 rdo39 sz39 rdo40 sz40 rdo41 sz41 rdo42 sz42 rdo43 sz43 rdo44 sz44 rdo45 sz45 rdo46 sz46 rdo47 sz47 rda48 sz48 rda49 sz49 rdo50 sz50 rdo51 sz51 rdo52 sz52 Tryd.underlying52 rda53 sz53 rda54 sz54 rdo55 sz55 rdo56 sz56 rdo57 sz57 rdo58 sz58 rda59 sz59 rdo60 sz60 rdo61 sz61 rdo62 sz62 rdo64 sz64 rdo66 sz66 rdo67 sz67 rdo68 sz68 rdo69 sz69 rdo70 sz70 rdo71 sz71 isb71 Tryd.underlying71 rda72 sz72 rda73 sz73 rdo74 sz74 rdo75 sz75 rdo76 sz76 rdo77 sz77 rdo78 sz78 rdo79 sz79 rdo80 sz80 rdo81 sz81 rda82 sz82 rda83 sz83 rdo84 sz84 rdo85 sz85 rdo86 sz86 rdo87 sz87 rdo88 sz88 rdo89 sz89 rdo90 sz90 rdo91 sz91 rdo92 sz92 rdo94 sz94 rdo95 sz95 rdo97 sz97 rdo99 sz99 rdo100 sz100 rdo101 sz101 rdo102 sz102 rdo103 sz103 rdo104 sz104 rdo105 sz105 ifx105 rdo106 sz106 ifx106 rdo108 sz108 rdo109 sz109 rdo110 sz110 rdo111 sz111 rdo112 sz112 rdo113 sz113 rdo114 sz114 rdo115 sz115 rda116 sz116 rda117 sz117 rdo118 sz118 rdo119 sz119 rdo121 sz121 rdo122 sz122 rdo123 sz123 Tryd.underlying123 rdo124 sz124 rdo125 sz125 rdo126 sz126 rdo127 sz127 rdo128 sz128 rdo129 sz129 rdo130 sz130 rdo131 sz131 rdo132 sz132 rda133 sz133 rdo134 sz134 rdo135 sz135 rdo136 sz136 Tryd.underlying136 rdo138 sz138 rdo139 sz139 rdo140 sz140 rdo141 sz141 rdo142 sz142 rdo143 sz143 rdo144 sz144 rdo146 sz146 rdo147 sz147 rdo149 sz149 rdo150 sz150 rdo151 sz151 rdo152 sz152 Tryd.underlying152 rdo154 sz154 rda155 sz155 rda156 sz156 rdo157 sz157 rda158 sz158 rdo159 sz159 rdo160 sz160 rdo162 sz162 rdo163 sz163 rdo164 sz164 rdo165 sz165 rda166 sz166 rda167 sz167 rdo168 sz168 rda169 sz169 rdo170 sz170 Tryd.underlying170 rdo172 sz172 rda174 sz174 rda175 sz175 rda176 sz176 rdo178 sz178 rdo179 sz179 rda180 sz180 rda181 sz181 sz184 sz185 rdo187 sz187 rdo190 sz190
end Go.Proofs.YtahgjolokkfhjaaDoor
